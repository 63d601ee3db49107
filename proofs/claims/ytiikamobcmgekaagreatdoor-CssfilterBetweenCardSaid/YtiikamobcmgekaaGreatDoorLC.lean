/- The walks of the lexer: pieces; texts quoted. -/
import Derived.Test.YtiikamobcmgekaaGreatDoorKA
import Derived.Test.YtiikamobcmgekaaGreatDoorLB
namespace Go.Proofs.YtiikamobcmgekaaGreatDoor
set_option maxRecDepth 100000
set_option maxHeartbeats 4000000
open Go.RowKit Go.Shelf
attribute [local go_sem] Oper.semAt_some
def LE.vals (x:LE):Array Value:= #[.agg #[.int .i64 x.kind,.int .i64 x.at_,.string ⟨x.text.toArray⟩],.int .i64 x.err]
theorem blank_at (s:ByteArray) (k:Nat) (W:World) (hm:s.size<=140737488355328):Calls Tryz.prog 186 #[.string (s.extract k s.size)] W fun e w'=>e= .returned (.int .i64 (blk false (s.data.toList.drop k):Nat))/\W=w':=by
 have:=blank_any (s.extract k s.size) W (by rw[ByteArray.size_extract];omega)
 rwa[extract_drop]at this
theorem piece_at (s:ByteArray) (k:Nat) (W:World) (hk:k<s.size) (hm:s.size<=140737488355328):Calls Tryz.prog 187 #[.string (s.extract k s.size)] W (Ret (pieceV (s.data.toList.drop k)) W):=by
 have:=piece_any (s.extract k s.size) W (by rw[ByteArray.size_extract];omega) (by rw[ByteArray.size_extract];omega)
 rwa[extract_drop]at this
theorem pieces1_iter (s:ByteArray) (bs:Nat) (bw:Nat->Prop) (W:World) (hb:Boxed W bs 9 (.string s)) (hbw: ¬bw bs) (hm:s.size<=140737488355328):
  IterAt Tryz.prog 185 #[.pointer (some ⟨bs,0,none⟩)] LE.vals (fun _=>False) bw (yldL 0 s.data.toList) W:=by
 intro l J Jx hJ hY h0
 refine callsIn_of_wp Tryz.func185 rfl trivial ?_ rfl
 have hc:=hb.cell
 have HB:=Lib.hid (blank_any s W (by omega))
 simp only[Tryz.ntmps185,List.size_toArray,List.length_cons,List.length_nil,Nat.reduceAdd,Nat.reduceSub,Array.replicate_succ,Array.replicate_zero,List.push_toArray,List.append_toArray,List.nil_append,List.cons_append]
 gi_wp2_with (gi_at_call 186;refine(callsIn_wide.2 HB.out).mono ?_;rintro e w' ⟨rfl,rfl⟩)
 clear hc
 gi_loopw [3] (fun p wr=> ∃(k:Nat) (pre:List LE),k<=s.size/\p= .int .i64 k/\Boxed wr bs 9 (.string s)/\J pre wr/\Hid (pre++yldH k (s.data.toList.drop k)=yldL 0 s.data.toList)) (fun p _=>s.size-(intOf p).toNat)
 case atStart=>
  have:=blk_le false s.data.toList
  rw[len_data]at this
  exact⟨_,[],this,rfl,hb,h0,by show _=_;rw[yldL_eq];simp⟩
 case round=>
  obtain⟨k,pre,hk,rfl,hbx,hJs,HK⟩:=hrel
  have hc:=hbx.cell
  by_cases hlt:k<s.size
  ·have HP:=Lib.hid (fun W=>piece_at s k W hlt hm)
   have hne:s.data.toList.drop k≠[]:=by rw[drop_at s k hlt];simp
   cases hp:pieceL (s.data.toList.drop k)with
   |ok kd t n=>
    unfold pieceV at HP
    rw[hp]at HP
    simp only[pieceW]at HP
    have HP:=Lib.hid HP
    have HY:=Lib.hid (yldH_ok (a:=k) hne hp)
    have hn:=(pieceL_le _).1 kd t n hp
    rw[List.length_drop,len_data]at hn
    clear hne hp
    gi_wp2_with (gi_at_call 187;refine(callsIn_wide.2 (HP.out.out _)).mono ?_;rintro e w' ⟨rfl,X,rfl⟩)
    have HX:Hid ((pre++[(⟨kd,k,t,0⟩:LE)])<+:yldL 0 s.data.toList):=⟨yldL (k+n) ((s.data.toList.drop k).drop n),by rw[<-HK.out,HY.out];simp⟩
    have HN:Hid ((pre++[(⟨kd,k,t,0⟩:LE)])++yldL (k+n) (s.data.toList.drop (k+n))=yldL 0 s.data.toList):=by
     show _=_
     rw[<-HK.out,HY.out,List.drop_drop];simp
    have hT:Turned (fun _=>False) wr ((wr.grow X).alloc (Obj.cells #[.int .i64 kd,.int .i64 k,.string ⟨t.toArray⟩] 112)):=((Turned.refl _ _).grow X).alloc _
    have hb2:=hT.boxed hbx (fun h=>h)
    obtain⟨fn,tmps,assign,body,hy,hR⟩:=hY pre ⟨kd,k,t,0⟩ _ HX.out (hJ _ _ _ hJs hT)
    simp only[LE.vals,Int.natCast_zero]at hy
    clear hc hT
    rw[hy]
    go_simp
    refine hR.mono ?_
    rintro e W3 (⟨rfl,hJ3,ht⟩|⟨rfl,hJx⟩)
    ·have hb3:=ht.boxed hb2 hbw
     have hc3:=hb3.cell
     have hle:k+n<=s.size:=by omega
     have HB2:=Lib.hid (fun W=>blank_at s (k+n) W hm)
     have hbl:=blk_le false (s.data.toList.drop (k+n))
     rw[List.length_drop,len_data]at hbl
     have hkn:((k+n:Nat):Int)=(k:Int)+n:=Int.natCast_add _ _
     gi_wp2_with (gi_at_call 186;refine(callsIn_wide.2 (HB2.out _)).mono ?_;rintro e w' ⟨rfl,rfl⟩)
     go_roundw
     case rel=>
      refine⟨k+n+blk false (s.data.toList.drop (k+n)),pre++[⟨kd,k,t,0⟩],by omega,by go_num,hb3,hJ3, ?_⟩
      show _=_
      rw[<-HN.out,yldL_eq (k+n),List.drop_drop]
     case measure=>simp[intOf];omega
    ·gi_wp2
     refine bodyPost_ret (results_none rfl _ _ _) rfl ?_
     exact⟨⟨_,rfl⟩,.inr ⟨pre,_,HX.out,hJx⟩⟩
   |bad n=>
    unfold pieceV at HP
    rw[hp]at HP
    simp only[pieceW]at HP
    generalize hq:(if decide ((List.headD (List.drop k s.data.toList) 0).toNat=34)=true then(3:Int)else 0)=q at HP
    have HP:=Lib.hid HP
    have HY:=Lib.hid (yldH_bad (a:=k) hne hp)
    have hn:=(pieceL_le _).2 n hp
    rw[List.length_drop,len_data]at hn
    clear hne hp hq
    gi_wp2_with (gi_at_call 187;refine(callsIn_wide.2 (HP.out.out _)).mono ?_;rintro e w' ⟨rfl,X,rfl⟩)
    have HX:Hid (pre++[(⟨0,k+n,[],2⟩:LE)]=yldL 0 s.data.toList):=by
     show _=_
     rw[<-HK.out,HY.out]
    have hT:Turned (fun _=>False) wr ((wr.grow X).alloc (Obj.cells #[.int .i64 q,.int .i64 0,.string ⟨#[]⟩] 112)):=((Turned.refl _ _).grow X).alloc _
    obtain⟨fn,tmps,assign,body,hy,hR⟩:=hY pre ⟨0,k+n,[],2⟩ _ ⟨[],by rw[HX.out];simp⟩ (hJ _ _ _ hJs hT)
    simp only[LE.vals,Int.natCast_add,Int.cast_ofNat_Int]at hy
    clear hc hT
    rw[hy]
    go_simp
    refine hR.mono ?_
    rintro e W3 (⟨rfl,hJ3,ht⟩|⟨rfl,hJx⟩)
    ·gi_wp2
     refine bodyPost_ret (results_none rfl _ _ _) rfl ?_
     exact⟨⟨_,rfl⟩,.inl (HX.out ▸ hJ3)⟩
    ·gi_wp2
     refine bodyPost_ret (results_none rfl _ _ _) rfl ?_
     exact⟨⟨_,rfl⟩,.inr ⟨pre,_,⟨[],by rw[HX.out];simp⟩,hJx⟩⟩
  ·have HE:=Lib.hid (drop_end s k (by omega))
   gi_wp2
   go_end0
   refine⟨⟨_,rfl⟩,.inl ?_⟩
   have:=HK.out
   rw[HE.out]at this
   simp only[yldH,yldS,List.append_nil]at this
   rw[<-this];exact hJs
theorem lex_row:SlT Tryz.prog 86 112 (.agg #[.int .i64 0,.int .i64 0,.string ⟨#[]⟩]) 3 32:=⟨by kernel_rfl,by kernel_rfl,by kernel_rfl,by decide⟩
def Lx.cells (x:Lx):List Value:=[.int .i64 x.kind,.int .i64 x.at_,.string ⟨x.text.toArray⟩]
def lxCells (l:List Lx):List Value:=l.flatMap Lx.cells
theorem pieces_any (s:ByteArray) (w:World):Calls Tryz.prog 110 #[.string s] w fun e w'=>e= .returned (.func (.func 185) #[] #[.pointer (some ⟨w.heap.size,0,none⟩)])/\w.alloc (.cells #[.string s] 9)=w':=by
 go_enter Tryz.func110,Tryz.ntmps110
 go_wp2
 go_ret
 exact⟨rfl,rfl⟩
def LE.lx (x:LE):Lx:=⟨x.kind,x.at_,x.text⟩
theorem yldS_err {k:Nat->Bs->List LE} (h: ∀b l,∀x∈k b l,x.err=0\/x.err=2) (a:Nat) (r:Bs): ∀x∈yldS k a r,x.err=0\/x.err=2:=by
 intro x hx
 cases r with
 |nil=>cases hx
 |cons c r=>
  simp only[yldS]at hx
  cases hp:pieceL (c::r)with
  |ok kd t n=>
   rw[hp]at hx
   simp only[List.mem_cons]at hx
   rcases hx with rfl|hx
   ·exact Or.inl rfl
   ·exact h _ _ x hx
  |bad n=>
   rw[hp]at hx
   simp only[List.mem_singleton]at hx
   subst hx;exact Or.inr rfl
theorem yldF_err (f:Nat): ∀a l,∀x∈yldF f a l,x.err=0\/x.err=2:=by
 induction f with
 |zero=>intro a l x hx;cases hx
 |succ f ih=>intro a l;exact yldS_err ih _ _
theorem yldL_err (a:Nat) (l:Bs): ∀x∈yldL a l,x.err=0\/x.err=2:=yldF_err _ a l
theorem toSR_ok {l:List LE} (h: ∀x∈l,x.err=0):toSR l= .ok (l.map LE.lx):=by
 induction l with
 |nil=>rfl
 |cons x l ih=>
  rw[toSR,if_pos (h x (List.mem_cons_self ..)),ih fun y hy=>h y (List.mem_cons_of_mem _ hy)];rfl
theorem toSR_bad {p:List LE} {x:LE} {l:List LE} (h:(p++[x])<+:l) (hp: ∀y∈p,y.err=0) (hx:x.err≠0):toSR l= .bad x.at_:=by
 obtain⟨r,rfl⟩:=h
 induction p with
 |nil=>simp[toSR,hx]
 |cons y p ih=>
  rw[List.cons_append,List.cons_append,toSR,if_pos (hp y (List.mem_cons_self ..)),ih fun z hz=>hp z (List.mem_cons_of_mem _ hz)];rfl
def scanP (R:SR) (w:World) (e:Ending) (w':World):Prop:=
 ∃v,Below w.heap.size w w'/\match R with
  | .ok l=>e= .returned (.tuple #[v,.int .i64 0,.int .i64 0])/\Rd w' v l.length 3 (lxCells l)
  | .bad n=>e= .returned (.tuple #[.slice none 0 0,.int .i64 n,.int .i64 2])
def scanP2 (R:SR) (w:World) (e:Ending) (w':World):Prop:=
 ∃v,Below w.heap.size w w'/\match R with
  | .ok l=>e= .returned (.tuple #[v,.int .i64 0,.int .i64 0])/\w'.ownsRow w.heap.size 112 3 v l.length (lxCells l)
  | .bad n=>e= .returned (.tuple #[.slice none 0 0,.int .i64 n,.int .i64 2])
theorem scanP2.one {R:SR} {w w':World} {e:Ending} (h:scanP2 R w e w'):scanP R w e w':=by
 obtain⟨v,hb,h⟩:=h
 refine⟨v,hb, ?_⟩
 cases R with
 |ok l=>exact⟨h.1,Rd.own h.2⟩
 |bad n=>exact h
theorem lxCells_snoc (l:List Lx) (x:Lx):lxCells (l++[x])=lxCells l++x.cells:=by simp[lxCells]
theorem lxCells_len (l:List Lx):(lxCells l).length=l.length*3:=by
 induction l with
 |nil=>rfl
 |cons x l ih=>simp only[lxCells,List.flatMap_cons,List.length_append,List.length_cons]at*;rw[ih];simp[Lx.cells];omega
def ScanI (w:World) (pre:List LE) (W:World):Prop:=
 (Boxed W w.heap.size 86 (.slice none 0 0)/\Boxed W (w.heap.size+1) 3 (.int .i64 0)/\Boxed W (w.heap.size+1+1) 24 (.int .i64 0))/\
 (∃v,Boxed W (w.heap.size+1+1+1) 86 v/\W.ownsRow (w.heap.size+7) 112 3 v pre.length (lxCells (pre.map LE.lx)))/\(∀x∈pre,x.err=0)/\Below w.heap.size w W
def ScanX (w:World) (c:Code) (pre:List LE) (W:World):Prop:=
 c= .ret/\Boxed W w.heap.size 86 (.slice none 0 0)/\(∃p x,pre=p++[x]/\(∀y∈p,y.err=0)/\x.err≠0/\Boxed W (w.heap.size+1) 3 (.int .i64 x.at_)/\Boxed W (w.heap.size+1+1) 24 (.int .i64 x.err))/\Below w.heap.size w W
theorem scan2_any (s:ByteArray) (w:World) (hm:s.size<=8192):Calls Tryz.prog 46 #[.string s] w (scanP2 (scanL 0 s.data.toList) w):=by
 refine(callsIn_wide (n:=0)).1 ?_
 refine callsIn_of_wp_marks (n:=0) Tryz.func46 rfl trivial ?_ rfl
 have h8: ¬(8192<(s.size:Int)):=by omega
 simp only[Tryz.ntmps46,List.size_toArray,List.length_cons,List.length_nil,Nat.reduceAdd,Nat.reduceSub,Array.replicate_succ,Array.replicate_zero,List.push_toArray,List.append_toArray,List.nil_append,List.cons_append]
 gi_wp2_with (gi_at_call 110;refine(callsIn_wide.2 (pieces_any s _)).mono ?_;rintro e w' ⟨rfl,rfl⟩)
 refine wp_range (B:=w.heap.size+5) (by simp) rfl (enters_of Tryz.func185 (by kernel_rfl) rfl) (encs:=LE.vals) (fun _=>rfl) (xs:=yldL 0 s.data.toList) (fun _=>False)
  (fun k=>w.heap.size<=k/\k<w.heap.size+4\/w.heap.size+7<=k) (fun _ h=>h.elim) (by intro k hk;omega) (ScanI w) (ScanX w) ?hI ?hIx ?h0 ?hiter ?hround ?hdone ?hstop
 case hI=>
  rintro pre A C ⟨⟨b1,b2,b3⟩,⟨v,bv,ho⟩,he,hB⟩ ht
  refine⟨⟨ht.boxed b1 (by simp<;>omega),ht.boxed b2 (by simp<;>omega),ht.boxed b3 (by simp<;>omega)⟩,⟨v,ht.boxed bv (by simp<;>omega),ht.own ho (fun k hk=>by rcases hk with hk|hk|hk;exact hk.elim;omega;omega)⟩,he,hB.trans (ht.below hB.size (fun k hk=>by rcases hk with hk|hk|hk;exact hk.elim;omega;omega))⟩
 case hIx=>
  rintro c pre A C ⟨hc,b1,⟨p,x,h1,h2,h3,b2,b3⟩,hB⟩ ht
  exact⟨hc,ht.boxed b1 (by simp<;>omega),⟨p,x,h1,h2,h3,ht.boxed b2 (by simp<;>omega),ht.boxed b3 (by simp<;>omega)⟩,hB.trans (ht.below hB.size (fun k hk=>by rcases hk with hk|hk;omega;omega))⟩
 case h0=>
  have b1:=(((Boxed.new w 86 (.slice none 0 0)).alloc (.cells #[.int .i64 0] 3)).alloc (.cells #[.int .i64 0] 24)).alloc (.cells #[.slice none 0 0] 86) |>.alloc (.cells #[.string s] 9)
  have b2:=((Boxed.new (w.alloc (.cells #[.slice none 0 0] 86)) 3 (.int .i64 0)).alloc (.cells #[.int .i64 0] 24)).alloc (.cells #[.slice none 0 0] 86) |>.alloc (.cells #[.string s] 9)
  have b3:=(Boxed.new ((w.alloc (.cells #[.slice none 0 0] 86)).alloc (.cells #[.int .i64 0] 3)) 24 (.int .i64 0)).alloc (.cells #[.slice none 0 0] 86) |>.alloc (.cells #[.string s] 9)
  have b4:=(Boxed.new (((w.alloc (.cells #[.slice none 0 0] 86)).alloc (.cells #[.int .i64 0] 3)).alloc (.cells #[.int .i64 0] 24)) 86 (.slice none 0 0)).alloc (.cells #[.string s] 9)
  simp only[World.size_alloc]at b2 b3 b4
  exact⟨⟨b1,b2,b3⟩,⟨_,b4,World.ownsRow_nil _ _ _ _⟩,(fun x hx=>by cases hx),bel⟩
 case hiter=>
  intro o1 o2
  have b5:=(Boxed.new ((((w.alloc (.cells #[.slice none 0 0] 86)).alloc (.cells #[.int .i64 0] 3)).alloc (.cells #[.int .i64 0] 24)).alloc (.cells #[.slice none 0 0] 86)) 9 (.string s)).alloc o1 |>.alloc o2
  simp only[World.size_alloc]at b5
  exact pieces1_iter s _ _ _ b5 (by omega) (by omega)
 case hround=>
  rintro l pre ⟨kd,xa,xt,xe⟩ A hx ⟨_,_,_,hBA⟩ hsz
  simp only[LE.vals]
  gi_wp2
  refine⟨(Turned.refl _ _).alloc _,fun A2 ht hI2 hs2=> ?_⟩
  have hx2:A2.heap[A.heap.size]? =some (.cells #[.int .i64 kd,.int .i64 xa,.string ⟨xt.toArray⟩] 112):=(ht.block _ (by simp) (by omega)).trans (World.alloc_heap_new A _)
  have c0:A2.cell? ⟨A.heap.size,0,none⟩=some (.int .i64 kd):=by simp[World.cell?,hx2]
  have c1:A2.cell? ⟨A.heap.size,1,none⟩=some (.int .i64 xa):=by simp[World.cell?,hx2]
  have c2:A2.cell? ⟨A.heap.size,2,none⟩=some (.string ⟨xt.toArray⟩):=by simp[World.cell?,hx2]
  clear hx2 ht
  obtain⟨⟨b1,b2,b3⟩,⟨v,bv,ho⟩,he,hB⟩:=hI2
  have d1:=b1.cell
  have d2:=b2.cell
  have d3:=b3.cell
  have d4:=bv.cell
  have e1:=b1.frozen
  have e2:=b2.frozen
  have e3:=b3.frozen
  have hxe:=yldL_err 0 s.data.toList _ (hx.subset (List.mem_append_right _ (List.mem_singleton.2 rfl)))
  simp only at hxe
  have HX:=Lib.hid hx
  have HE:=Lib.hid he
  have HB:=Lib.hid hB
  have hlen:pre.length<=1000000000:=by
   have h1:=hx.length_le
   have h2:=yldL_len 0 s.data.toList
   rw[len_data]at h2
   simp at h1;omega
  have hs3:w.heap.size+8<=A2.heap.size:=by rw[hs2];simp;omega
  clear hx he hB hs2
  rcases hxe with rfl|rfl
  ·simp only[Int.natCast_zero]
   gi_wp2_with (gi_at_builtin;go_loud(refine appendIn_turn rfl _ _ 86 rfl lex_row (w.heap.size+7) rfl (ho.alloc _) (by simp;omega) ⟨_,0,none⟩ 0 1 [.int .i64 kd,.int .i64 xa,.string ⟨xt.toArray⟩] rfl rfl (new_cells (c:= #[.int .i64 kd,.int .i64 xa,.string ⟨xt.toArray⟩]) (by simp[go_sem])) (by simp[Value.oneCell']) (by unfold maxLen;omega) (by omega) ?_);intro g cap W' ho' ht';have bv':=ht'.boxed (bv.alloc _) (by omega);have d5:=bv'.cell;have e5:=bv'.frozen)
   have hT:Turned (fun k=>w.heap.size<=k/\k<w.heap.size+4\/w.heap.size+7<=k) A2 (W'.setCell ⟨w.heap.size+1+1+1,0,none⟩ (.slice (some ⟨g,0,none⟩) (pre.length+0+1) cap)):=
    (((Turned.refl _ _).alloc _).trans (ht'.mono fun k hk=>Or.inr hk)).setCell (Or.inr (by show _\/_;simp<;>omega)) _
   refine⟨hT,⟨(ht'.boxed (b1.alloc _) (by omega)).other (by omega) _,(ht'.boxed (b2.alloc _) (by omega)).other (by omega) _,(ht'.boxed (b3.alloc _) (by omega)).other (by omega) _⟩,⟨_,bv'.set _, ?_⟩, ?_,HB.out.trans (hT.below HB.out.size (fun k hk=>by rcases hk with hk|hk<;>omega))⟩
   ·have h1:=(Turned.setCell (pv:=fun k=>k=w.heap.size+1+1+1) (Turned.refl _ W') (p:=⟨w.heap.size+1+1+1,0,none⟩) (Or.inr rfl) (.slice (some ⟨g,0,none⟩) (pre.length+0+1) cap)).own ho' (fun k hk=>by omega)
    rw[List.map_append,List.map_singleton,lxCells_snoc,List.length_append]
    exact h1
   ·intro y hy
    rcases List.mem_append.1 hy with hy|hy
    ·exact HE.out y hy
    ·rw[List.mem_singleton]at hy;subst hy;rfl
  ·simp only[Int.cast_ofNat_Int]
   gi_wp2
   have hmx:=mxd
   gi_region_with_o (fail)
   all_goals gi_wp2
   all_goals
    have hT:Turned (fun k=>w.heap.size<=k/\k<w.heap.size+4\/w.heap.size+7<=k) A2 (((A2.setCell ⟨w.heap.size,0,none⟩ (.slice none 0 0)).setCell ⟨w.heap.size+1,0,none⟩ (.int .i64 xa)).setCell ⟨w.heap.size+1+1,0,none⟩ (.int .i64 2)).drew:=
     ((((Turned.refl _ _).setCell (Or.inr (by show _\/_;simp<;>omega)) _).setCell (Or.inr (by show _\/_;simp<;>omega)) _).setCell (Or.inr (by show _\/_;simp<;>omega)) _).drew
    exact⟨hT,rfl,((b1.set _).other (by omega) _).other (by omega) _,⟨pre,⟨kd,xa,xt,2⟩,rfl,HE.out,by simp,((b2.other (by omega) _).set _).other (by omega) _,((b3.other (by omega) _).other (by omega) _).set _⟩,HB.out.trans (hT.below HB.out.size (fun k hk=>by rcases hk with hk|hk<;>omega))⟩
 case hdone=>
  rintro W ⟨⟨b1,b2,b3⟩,⟨v,bv,ho⟩,he,hB⟩ hK
  have d1:=b1.cell
  have d2:=b2.cell
  have d3:=b3.cell
  have d4:=bv.cell
  have e1:=b1.frozen
  have e2:=b2.frozen
  have e3:=b3.frozen
  have hrd:=Rd.own ho
  obtain⟨_,_,A',c',hv,_⟩:=hrd
  subst hv
  gi_wp2
  have hT:Turned (fun k=>w.heap.size<=k/\k<w.heap.size+3) W (((W.setCell ⟨w.heap.size,0,none⟩ (.slice A' (yldL 0 s.data.toList).length c')).setCell ⟨w.heap.size+1,0,none⟩ (.int .i64 0)).setCell ⟨w.heap.size+1+1,0,none⟩ (.int .i64 0)):=
   (((Turned.refl _ _).setCell (Or.inr (by show _/\_;simp<;>omega)) _).setCell (Or.inr (by show _/\_;simp<;>omega)) _).setCell (Or.inr (by show _/\_;simp<;>omega)) _
  have hK2:=(hT.block (w.heap.size+5) (Array.getElem?_eq_some_iff.1 hK).1 (by omega)).trans hK
  have f1:=((b1.set (.slice A' (yldL 0 s.data.toList).length c')).other (B':=w.heap.size+1) (by omega) (.int .i64 0)).other (B':=w.heap.size+1+1) (by omega) (.int .i64 0)
  have f2:=((b2.other (B':=w.heap.size) (by omega) (.slice A' (yldL 0 s.data.toList).length c')).set (.int .i64 0)).other (B':=w.heap.size+1+1) (by omega) (.int .i64 0)
  have f3:=((b3.other (B':=w.heap.size) (by omega) (.slice A' (yldL 0 s.data.toList).length c')).other (B':=w.heap.size+1) (by omega) (.int .i64 0)).set (.int .i64 0)
  have ho2:=hT.own ho (fun k hk=>by omega)
  have hB2:=hB.trans (hT.below hB.size (fun k hk=>by omega))
  clear b1 b2 b3 bv ho hB hK hT d1 d2 d3 d4 e1 e2 e3
  generalize(((W.setCell ⟨w.heap.size,0,none⟩ (.slice A' (yldL 0 s.data.toList).length c')).setCell ⟨w.heap.size+1,0,none⟩ (.int .i64 0)).setCell ⟨w.heap.size+1+1,0,none⟩ (.int .i64 0))=V at*
  have hT:Turned (fun k=>k=w.heap.size+5) V (V.putObj (w.heap.size+5) (.deferred none)):=Turned.putObj (pv:=fun k=>k=w.heap.size+5) (Turned.refl _ _) (Or.inr rfl) _
  have g1:=(hT.boxed f1 (by omega)).cell
  have g2:=(hT.boxed f2 (by omega)).cell
  have g3:=(hT.boxed f3 (by omega)).cell
  refine⟨by simp,.inl ⟨_,_,rfl,run_takeDeferred hK2, ?_⟩⟩
  refine⟨.tuple #[.slice A' (yldL 0 s.data.toList).length c',.int .i64 0,.int .i64 0], ?_,⟨.slice A' (yldL 0 s.data.toList).length c',hB2.trans (hT.below hB2.size (fun k hk=>by omega)), ?_⟩⟩
  ·simp[results,Tryz.results46,go_sem,g1,g2,g3]
  ·rw[scanL_yld,toSR_ok he]
   refine⟨rfl, ?_⟩
   rw[List.length_map]
   exact own_base (hT.own ho2 (fun k hk=>by omega)) (by omega)
 case hstop=>
  rintro c pre x W hx ⟨rfl,b1,⟨p,y,hp,he,hne,b2,b3⟩,hB⟩ hK
  gi_wp2
  have hT:Turned (fun k=>k=w.heap.size+5) W (W.putObj (w.heap.size+5) (.deferred none)):=Turned.putObj (pv:=fun k=>k=w.heap.size+5) (Turned.refl _ _) (Or.inr rfl) _
  have g1:=(hT.boxed b1 (by omega)).cell
  have g2:=(hT.boxed b2 (by omega)).cell
  have g3:=(hT.boxed b3 (by omega)).cell
  have h2:y.err=2:=by
   rcases yldL_err 0 s.data.toList y (hx.subset (by rw[hp];simp))with h|h
   ·exact absurd h hne
   ·exact h
  rw[h2]at g3
  refine⟨by simp,.inl ⟨_,_,rfl,run_takeDeferred hK, ?_⟩⟩
  refine⟨.tuple #[.slice none 0 0,.int .i64 y.at_,.int .i64 2], ?_,⟨.slice none 0 0,hB.trans (hT.below hB.size (fun k hk=>by omega)), ?_⟩⟩
  ·simp[results,Tryz.results46,go_sem,g1,g2,g3]
  ·rw[scanL_yld,toSR_bad (hp ▸ hx) he hne]
def quoteV:Option Bs->Value
 |some q=> .tuple #[.string ⟨q.toArray⟩,.bool true]
 |none=> .tuple #[.string ⟨#[]⟩,.bool false]
def quoteR (out:Bs) (r:Bs):Option Bs:=if r.any oddB then none else some (out++esc r++[34])
theorem quoteR_odd (out:Bs) {c:UInt8} (r:Bs) (h:oddB c=true):quoteR out (c::r)=none:=by simp[quoteR,h]
theorem quoteR_esc (out:Bs) {c:UInt8} (r:Bs) (h:oddB c=false) (hc:c.toNat=34\/c.toNat=92):quoteR out (c::r)=quoteR (out++[92]++[c]) r:=by
 simp[quoteR,h,esc,hc]
theorem quoteR_one (out:Bs) {c:UInt8} (r:Bs) (h:oddB c=false) (hc: ¬(c.toNat=34\/c.toNat=92)):quoteR out (c::r)=quoteR (out++[c]) r:=by
 simp[quoteR,h,esc,hc]
theorem quote_any (s:ByteArray) (w:World) (hm:s.size<=35184372088832):Calls Tryz.prog 127 #[.string s] w (Ret (quoteV (quoteL s.data.toList)) w):=by
 have HQ:Hid (quoteR [34] s.data.toList=quoteL s.data.toList):=by show _=_;simp[quoteR,quoteL]
 generalize quoteL s.data.toList=R at*
 go_enter Tryz.func127,Tryz.ntmps127
 go_wp2_with fail
 go_loopw [4,11] (fun v i wr=> ∃(k:Nat) (out:Bs),k<=s.size/\out.length<=2*k+1/\i= .int .i64 k/\Below w.heap.size w wr/\wr.ownsRow w.heap.size 5 1 v out.length (out.map bv)/\BytesAt wr (w.heap.size+1) 5 s/\Hid (quoteR out (s.data.toList.drop k)=R)) (fun _ i _=>s.size-(intOf i).toNat)
 case atStart=>
  refine⟨0,[34],by omega,by simp,rfl,bel,own_grow (own_lit (c:= #[.int .u8 34]) rfl (by unfold maxLen;omega)) _, ?_,HQ⟩
  have:=BytesAt.new (w.alloc (Obj.cells #[.int .u8 34] 5)) 5 s
  rwa[World.size_alloc]at this
 case round=>
  obtain⟨k,out,hk,hout,rfl,hB,hown,hby,HK⟩:=hrel
  have hsz:=hB.size
  by_cases hlt:k<s.size
  ·have hc:=hby.cell k hlt
   have HD:=Lib.hid (drop_at s k hlt)
   have HBY:=Lib.hid hby
   have HB:=Lib.hid hB
   have HO:=Lib.hid hown
   clear hB hby
   cases ho:oddB s[k]
   ·have HL:Hid ((out++[s[k]]).map bv=out.map bv++[.int .u8 (s[k].toNat:Int)]):=by show _=_;simp[bv]
    have HL2:Hid ((out++[s[k]]).length=out.length+1):=by show _=_;simp
    have HM:Hid ((out++[92]++[s[k]]).map bv=out.map bv++[.int .u8 92]++[.int .u8 (s[k].toNat:Int)]):=by show _=_;simp[bv]
    have HM2:Hid ((out++[92]++[s[k]]).length=out.length+1+1):=by show _=_;simp
    by_cases hq:s[k].toNat=34\/s[k].toNat=92
    ·have HN:=Lib.hid (show quoteR (out++[92]++[s[k]]) (s.data.toList.drop (k+1))=R by rw[<-HK.out,HD.out,quoteR_esc _ _ ho hq])
     have hd2:((s[k].toNat:Int)==34)=true\/((s[k].toNat:Int)==34)=false/\((s[k].toNat:Int)==92)=true:=by
      by_cases h:s[k].toNat=34
      ·exact Or.inl (by simp;omega)
      ·exact Or.inr ⟨by simp;omega,by simp;omega⟩
     clear hq
     rcases hd2 with q1|⟨q1,q2⟩
     all_goals
      go_wp2_with(first|(go_at_call 208;(with_reducible refine(odd_any s[k] _).mono ?_);rintro e w' ⟨rfl,rfl⟩;rw[ho])|(at_builtin;refine append_abs rfl _ _ 135 rfl bytes_row w.heap.size rfl (hown.alloc _) (by simp;omega) ⟨_,0,none⟩ 1 1 [.int .u8 92] rfl rfl (new_cells (c:= #[.int .u8 92]) (by simp[go_sem])) (by simp[Value.oneCell']) (by unfold maxLen;omega) (by omega) ?_;intro v1 W1 hown1 hg1;have hB1:=Lib.hid (HB.out.trans (((Below.refl _ _).alloc hsz _).trans (below_own (hown.alloc _) hg1 (Nat.le_refl _) (by simp;omega))));have hBy1:=Lib.hid ((HBY.out.alloc _).kept (hown.alloc _) hg1);clear hg1;have hsz1:=hB1.out.size)|(at_builtin;refine append_abs rfl _ _ 135 rfl bytes_row w.heap.size rfl (hown1.alloc _) (by simp;omega) ⟨_,0,none⟩ 1 1 [.int .u8 (s[k].toNat:Int)] rfl rfl (new_cells (c:= #[.int .u8 (s[k].toNat:Int)]) (by simp[go_sem])) (by simp[Value.oneCell']) (by unfold maxLen;omega) (by omega) ?_;intro v2 W2 hown2 hg2;have hB2:=Lib.hid (hB1.out.trans (((Below.refl _ _).alloc hsz1 _).trans (below_own (hown1.alloc _) hg2 (Nat.le_refl _) (by simp;omega))));have hBy2:=Lib.hid ((hBy1.out.alloc _).kept (hown1.alloc _) hg2);clear hg2))
      go_roundw
      case rel=>exact⟨k+1,out++[92]++[s[k]],by omega,by rw[HM2.out];omega,by go_num,hB2.out,by rw[HM.out,HM2.out];exact hown2,hBy2.out,HN⟩
      case measure=>simp[intOf];omega
    ·have HN:=Lib.hid (show quoteR (out++[s[k]]) (s.data.toList.drop (k+1))=R by rw[<-HK.out,HD.out,quoteR_one _ _ ho hq])
     have q1:((s[k].toNat:Int)==34)=false:=by simp;omega
     have q2:((s[k].toNat:Int)==92)=false:=by simp;omega
     clear hq
     go_wp2_with(first|(go_at_call 208;(with_reducible refine(odd_any s[k] _).mono ?_);rintro e w' ⟨rfl,rfl⟩;rw[ho])|(at_builtin;refine append_abs rfl _ _ 135 rfl bytes_row w.heap.size rfl (hown.alloc _) (by simp;omega) ⟨_,0,none⟩ 1 1 [.int .u8 (s[k].toNat:Int)] rfl rfl (new_cells (c:= #[.int .u8 (s[k].toNat:Int)]) (by simp[go_sem])) (by simp[Value.oneCell']) (by unfold maxLen;omega) (by omega) ?_;intro v1 W1 hown1 hg1;have hB1:=Lib.hid (HB.out.trans (((Below.refl _ _).alloc hsz _).trans (below_own (hown.alloc _) hg1 (Nat.le_refl _) (by simp;omega))));have hBy1:=Lib.hid ((HBY.out.alloc _).kept (hown.alloc _) hg1);clear hg1))
     go_roundw
     case rel=>exact⟨k+1,out++[s[k]],by omega,by rw[HL2.out];omega,by go_num,hB1.out,by rw[HL.out,HL2.out];exact hown1,hBy1.out,HN⟩
     case measure=>simp[intOf];omega
   ·have HV:=Lib.hid (show quoteV R= .tuple #[.string ⟨#[]⟩,.bool false] by rw[<-HK.out,HD.out,quoteR_odd _ _ ho];rfl)
    go_wp2_with(go_at_call 208;(with_reducible refine(odd_any s[k] _).mono ?_);rintro e w' ⟨rfl,rfl⟩;rw[ho])
    go_ret2
    exact Ret.of (by rw[HV.out];rfl) HB.out
  ·have HE:=Lib.hid (drop_end s k (by omega))
   have HV:=Lib.hid (show quoteV R= .tuple #[.string ⟨(out++[34]).toArray⟩,.bool true] by rw[<-HK.out,HE.out];simp[quoteR,esc,quoteV])
   have HL:Hid ((out++[34]).map bv=out.map bv++[.int .u8 34]):=by show _=_;simp[bv]
   have HL2:Hid ((out++[34]).length=out.length+1):=by show _=_;simp
   have HB:=Lib.hid hB
   clear hB hby
   go_wp2_with(at_builtin;refine append_abs rfl _ _ 135 rfl bytes_row w.heap.size rfl (hown.alloc _) (by simp;omega) ⟨_,0,none⟩ 1 1 [.int .u8 34] rfl rfl (new_cells (c:= #[.int .u8 34]) (by simp[go_sem])) (by simp[Value.oneCell']) (by unfold maxLen;omega) (by omega) ?_;intro v1 W1 hown1 hg1;have hB1:=Lib.hid (HB.out.trans (((Below.refl _ _).alloc hsz _).trans (below_own (hown.alloc _) hg1 (Nat.le_refl _) (by simp;omega))));clear hg1;have hown2:W1.ownsRow w.heap.size 5 1 v1 (out++[34]).length ((out++[34]).map bv):=by {rw[HL.out,HL2.out];exact hown1};have hcv:=(Rd.own hown2).str 135 9 5 Tryz.underlying135 Tryz.underlying5 Tryz.underlying9)
   go_ret2
   exact Ret.of (by rw[HV.out];rfl) hB1.out
end Go.Proofs.YtiikamobcmgekaaGreatDoor

