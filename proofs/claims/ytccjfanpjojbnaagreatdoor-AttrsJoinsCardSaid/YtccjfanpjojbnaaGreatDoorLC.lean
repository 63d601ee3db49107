import Derived.Test.YtccjfanpjojbnaaGreatDoorLB
namespace Go.Proofs.YtccjfanpjojbnaaGreatDoor
open Go.Ending renaming returned→aL
open Go.IntKind renaming i64→aC
open Lib renaming hid→aA
open List renaming cons_append→cF,length_append→aZ,length_cons→aY,length_drop→bL,mem_cons_of_mem→fO,mem_cons_self→fX,mem_singleton→fW
open Nat renaming le_refl→bA
open Tryz renaming prog→aE
open Go.Value renaming bool→aI,int→aB,oneCell'→gC,slice→aF,string→aD,tuple→aN
set_option maxRecDepth 100000
set_option maxHeartbeats 4000000
open Go.RowKit Go.Shelf
attribute [go_sem] Oper.semAt_some
def LE.vals (x:LE):Array Value:= #[Value.agg #[aB aC x.kind,aB aC x.at_,aD ⟨x.text.toArray⟩],aB aC x.err]
theorem Ra (s:ByteArray) (k:Nat) (W:World) (hm:s.size<=140737488355328):Calls aE 88 #[aD (s.extract k s.size)] W λe w'=>e=aL (aB aC (eC false (s.data.toList.drop k):Nat))/\W=w':=by
 have:=ZJ (s.extract k s.size) W (by rw[ByteArray.size_extract];omega);rwa[NJ]at this
theorem Dc (s:ByteArray) (k:Nat) (W:World) (hk:k<s.size) (hm:s.size<=140737488355328):Calls aE 89 #[aD (s.extract k s.size)] W (aH (uE (s.data.toList.drop k)) W):=by
 have:=Df (s.extract k s.size) W (by rw[ByteArray.size_extract];omega) (by rw[ByteArray.size_extract];omega);rwa[NJ]at this
theorem Cs (s:ByteArray) (bs:Nat) (bw:Nat->Prop) (W:World) (hb:Boxed W bs 9 (aD s)) (hbw: ¬bw bs) (hm:s.size<=140737488355328):
  yM aE 87 #[Value.pointer (some ⟨bs,0,none⟩)] LE.vals (λ_=>False) bw (jZ 0 s.data.toList) W:=by
 intro l J Jx hJ hY h0;refine callsIn_of_wp Tryz.func87 rfl trivial ?_ rfl;have hc:=hb.cell;have HB:=aA (ZJ s W om);simp only[Tryz.ntmps87,List.size_toArray,aY,List.length_nil,Nat.reduceAdd,Nat.reduceSub,Array.replicate_succ,Array.replicate_zero,List.push_toArray,List.append_toArray,List.nil_append,cF];gi_wp2_with (gi_at_call 88;refine(callsIn_wide.2 HB.out).mono ?_;rintro e w' ⟨rfl,rfl⟩)
 clear hc;gi_loopw [3] (λp wr=> ∃(k:Nat) (pre:List LE),k<=s.size/\p=aB aC k/\Boxed wr bs 9 (aD s)/\J pre wr/\Hid (pre++vH k (s.data.toList.drop k)=jZ 0 s.data.toList)) (λp _=>s.size-(intOf p).toNat)
 case atStart=>
  have:=GL false s.data.toList;rw[cU]at this;exact⟨_,[],this,rfl,hb,h0,by show _=_;rw[OO];simp⟩
 case round=>
  obtain⟨k,pre,hk,rfl,hbx,hJs,HK⟩:=hrel;have hc:=hbx.cell;by_cases hlt:k<s.size
  .have HP:=aA (λW=>Dc s k W hlt hm);have hne:s.data.toList.drop k≠[]:=by rw[oB s k hlt];simp
   cases hp:iA (s.data.toList.drop k)with
   |ok kd t n=>
    unfold uE at HP;rw[hp]at HP;simp only[nV]at HP;have HP:=aA HP;have HY:=aA (C9 (a:=k) hne hp);have hn:=(xJ _).1 kd t n hp;rw[bL,cU]at hn;clear hne hp;gi_wp2_with (gi_at_call 89;refine(callsIn_wide.2 (HP.out.out _)).mono ?_;rintro e w' ⟨rfl,X,rfl⟩)
    have HX:Hid ((pre++[(⟨kd,k,t,0⟩:LE)])<+:jZ 0 s.data.toList):=⟨jZ (k+n) ((s.data.toList.drop k).drop n),by rw[<-HK.out,HY.out];simp⟩;have HN:Hid ((pre++[(⟨kd,k,t,0⟩:LE)])++jZ (k+n) (s.data.toList.drop (k+n))=jZ 0 s.data.toList):=by
     show _=_;rw[<-HK.out,HY.out,List.drop_drop];simp
    have hT:aJ (λ_=>False) wr ((wr.grow X).alloc (Obj.cells #[aB aC kd,aB aC k,aD ⟨t.toArray⟩] 92)):=((aJ.refl _ _).grow X).alloc _;have hb2:=hT.boxed hbx (λh=>h);obtain⟨fn,tmps,assign,body,hy,hR⟩:=hY pre ⟨kd,k,t,0⟩ _ HX.out (hJ _ _ _ hJs hT);simp only[LE.vals,Int.natCast_zero]at hy;clear hc hT;rw[hy];go_simp
    refine hR.mono ?_;rintro e W3 (⟨rfl,hJ3,ht⟩|⟨rfl,hJx⟩)
    .have hb3:=ht.boxed hb2 hbw;have hc3:=hb3.cell;have hle:k+n<=s.size:=by omega
     have HB2:=aA (λW=>Ra s (k+n) W hm);have hbl:=GL false (s.data.toList.drop (k+n));rw[bL,cU]at hbl;have hkn:((k+n:Nat):Int)=(k:Int)+n:=Int.natCast_add _ _;gi_wp2_with (gi_at_call 88;refine(callsIn_wide.2 (HB2.out _)).mono ?_;rintro e w' ⟨rfl,rfl⟩)
     go_roundw
     case rel=>
      refine⟨k+n+eC false (s.data.toList.drop (k+n)),pre++[⟨kd,k,t,0⟩],by omega,by go_num,hb3,hJ3, ?_⟩;show _=_;rw[<-HN.out,OO (k+n),List.drop_drop]
     case measure=>simp[intOf];omega
    .gi_wp2;refine bodyPost_ret (results_none rfl _ _ _) rfl ?_;exact⟨⟨_,rfl⟩,.inr ⟨pre,_,HX.out,hJx⟩⟩
   |bad n=>
    unfold uE at HP;rw[hp]at HP;simp only[nV]at HP;generalize hq:(if decide ((List.headD (List.drop k s.data.toList) 0).toNat=34)=true then(3:Int)else 0)=q at HP;have HP:=aA HP;have HY:=aA (D0 (a:=k) hne hp);have hn:=(xJ _).2 n hp;rw[bL,cU]at hn;clear hne hp hq;gi_wp2_with (gi_at_call 89;refine(callsIn_wide.2 (HP.out.out _)).mono ?_;rintro e w' ⟨rfl,X,rfl⟩)
    have HX:Hid (pre++[(⟨0,k+n,[],2⟩:LE)]=jZ 0 s.data.toList):=by
     show _=_;rw[<-HK.out,HY.out]
    have hT:aJ (λ_=>False) wr ((wr.grow X).alloc (Obj.cells #[aB aC q,aB aC 0,aD ⟨#[]⟩] 92)):=((aJ.refl _ _).grow X).alloc _;obtain⟨fn,tmps,assign,body,hy,hR⟩:=hY pre ⟨0,k+n,[],2⟩ _ ⟨[],by rw[HX.out];simp⟩ (hJ _ _ _ hJs hT);simp only[LE.vals,Int.natCast_add,Int.cast_ofNat_Int]at hy;clear hc hT;rw[hy];go_simp
    refine hR.mono ?_;rintro e W3 (⟨rfl,hJ3,ht⟩|⟨rfl,hJx⟩)
    .gi_wp2;refine bodyPost_ret (results_none rfl _ _ _) rfl ?_;exact⟨⟨_,rfl⟩,.inl (HX.out ▸ hJ3)⟩
    .gi_wp2;refine bodyPost_ret (results_none rfl _ _ _) rfl ?_;exact⟨⟨_,rfl⟩,.inr ⟨pre,_,⟨[],by rw[HX.out];simp⟩,hJx⟩⟩
  .have HE:=aA (uW s k om);gi_wp2;go_end0;refine⟨⟨_,rfl⟩,.inl ?_⟩;have:=HK.out;rw[HE.out]at this;simp only[vH,pQ,List.append_nil]at this;rw[<-this];exact hJs
theorem Ij:jX aE 67 92 (Value.agg #[aB aC 0,aB aC 0,aD ⟨#[]⟩]) 3 32:=⟨by kernel_rfl,by kernel_rfl,by kernel_rfl,by decide⟩
def Lx.cells (x:Lx):List Value:=[aB aC x.kind,aB aC x.at_,aD ⟨x.text.toArray⟩]
def kG (l:List Lx):List Value:=l.flatMap Lx.cells
theorem Cq (s:ByteArray) (w:World):Calls aE 41 #[aD s] w λe w'=>e=aL (.func (.func 87) #[] #[Value.pointer (some ⟨w.heap.size,0,none⟩)])/\w.alloc (.cells #[aD s] 9)=w':=by
 go_enter Tryz.func41,Tryz.ntmps41;go_wp2
 go_ret;exact⟨rfl,rfl⟩
def LE.lx (x:LE):Lx:=⟨x.kind,x.at_,x.text⟩
theorem C7 {k:Nat->Bs->List LE} (h: ∀b l,∀x∈k b l,x.err=0\/x.err=2) (a:Nat) (r:Bs): ∀x∈pQ k a r,x.err=0\/x.err=2:=by
 intro x hx;cases r with
 |nil=>cases hx
 |cons c r=>
  simp only[pQ]at hx;cases hp:iA (c::r)with
  |ok kd t n=>
   rw[hp]at hx;simp only[List.mem_cons]at hx;rcases hx with rfl|hx
   .exact Or.inl rfl
   .exact h _ _ x hx
  |bad n=>
   rw[hp]at hx;simp only[fW]at hx;subst hx;exact Or.inr rfl
theorem D6 (f:Nat): ∀a l,∀x∈pR f a l,x.err=0\/x.err=2:=by
 induction f with
 |zero=>intro a l x hx;cases hx
 |succ f ih=>intro a l;exact C7 ih _ _
theorem ON (a:Nat) (l:Bs): ∀x∈jZ a l,x.err=0\/x.err=2:=D6 _ a l
theorem O1 {l:List LE} (h: ∀x∈l,x.err=0):sZ l= .ok (l.map LE.lx):=by
 induction l with
 |nil=>rfl
 |cons x l ih=>
  rw[sZ,if_pos (h x (fX ..)),ih λy hy=>h y (fO _ hy)];rfl
theorem O2 {p:List LE} {x:LE} {l:List LE} (h:(p++[x])<+:l) (hp: ∀y∈p,y.err=0) (hx:x.err≠0):sZ l= .bad x.at_:=by
 obtain⟨r,rfl⟩:=h;induction p with
 |nil=>simp[sZ,hx]
 |cons y p ih=>
  rw[cF,cF,sZ,if_pos (hp y (fX ..)),ih λz hz=>hp z (fO _ hz)];rfl
def t8 (R:SR) (w:World) (e:Ending) (w':World):Prop:=
 ∃v,Below w.heap.size w w'/\match R with
  | .ok l=>e=aL (aN #[v,aB aC 0,aB aC 0])/\Rd w' v l.length 3 (kG l)
  | .bad n=>e=aL (aN #[aF none 0 0,aB aC n,aB aC 2])
def KO (R:SR) (w:World) (e:Ending) (w':World):Prop:=
 ∃v,Below w.heap.size w w'/\match R with
  | .ok l=>e=aL (aN #[v,aB aC 0,aB aC 0])/\w'.ownsRow w.heap.size 92 3 v l.length (kG l)
  | .bad n=>e=aL (aN #[aF none 0 0,aB aC n,aB aC 2])
theorem KO.one {R:SR} {w w':World} {e:Ending} (h:KO R w e w'):t8 R w e w':=by
 obtain⟨v,hb,h⟩:=h;refine⟨v,hb, ?_⟩;cases R with
 |ok l=>exact⟨h.1,Rd.own h.2⟩
 |bad n=>exact h
theorem Hu (l:List Lx) (x:Lx):kG (l++[x])=kG l++x.cells:=by simp[kG]
theorem Hv (l:List Lx):(kG l).length=l.length*3:=by
 induction l with
 |nil=>rfl
 |cons x l ih=>simp only[kG,List.flatMap_cons,aZ,aY]at*;rw[ih];simp[Lx.cells];omega
def Sx (w:World) (pre:List LE) (W:World):Prop:=
 (Boxed W w.heap.size 67 (aF none 0 0)/\Boxed W (w.heap.size+1) 3 (aB aC 0)/\Boxed W (w.heap.size+1+1) 26 (aB aC 0))/\
 (∃v,Boxed W (w.heap.size+1+1+1) 67 v/\W.ownsRow (w.heap.size+7) 92 3 v pre.length (kG (pre.map LE.lx)))/\(∀x∈pre,x.err=0)/\Below w.heap.size w W
def Sv (w:World) (c:Code) (pre:List LE) (W:World):Prop:=
 c= .ret/\Boxed W w.heap.size 67 (aF none 0 0)/\(∃p x,pre=p++[x]/\(∀y∈p,y.err=0)/\x.err≠0/\Boxed W (w.heap.size+1) 3 (aB aC x.at_)/\Boxed W (w.heap.size+1+1) 26 (aB aC x.err))/\Below w.heap.size w W
theorem SI (s:ByteArray) (w:World) (hm:s.size<=8192):Calls aE 26 #[aD s] w (KO (xF 0 s.data.toList) w):=by
 refine(callsIn_wide (n:=0)).1 ?_;refine callsIn_of_wp_marks (n:=0) Tryz.func26 rfl trivial ?_ rfl;have h8: ¬(8192<(s.size:Int)):=by omega
 simp only[Tryz.ntmps26,List.size_toArray,aY,List.length_nil,Nat.reduceAdd,Nat.reduceSub,Array.replicate_succ,Array.replicate_zero,List.push_toArray,List.append_toArray,List.nil_append,cF];gi_wp2_with (gi_at_call 41;refine(callsIn_wide.2 (Cq s _)).mono ?_;rintro e w' ⟨rfl,rfl⟩)
 refine yO (B:=w.heap.size+5) (by simp) rfl (enters_of Tryz.func87 kr rfl) (encs:=LE.vals) (λ_=>rfl) (xs:=jZ 0 s.data.toList) (λ_=>False)
  (λk=>w.heap.size<=k/\k<w.heap.size+4\/w.heap.size+7<=k) (λ_ h=>h.elim) (by intro k hk;omega) (Sx w) (Sv w) ?hI ?hIx ?h0 ?hiter ?hround ?hdone ?hstop
 case hI=>
  rintro pre A C ⟨⟨b1,b2,b3⟩,⟨v,bv,ho⟩,he,hB⟩ ht;refine⟨⟨ht.boxed b1 (by simp<;>omega),ht.boxed b2 (by simp<;>omega),ht.boxed b3 (by simp<;>omega)⟩,⟨v,ht.boxed bv (by simp<;>omega),ht.own ho (λk hk=>by rcases hk with hk|hk|hk;exact hk.elim;omega;omega)⟩,he,hB.trans (ht.below hB.size (λk hk=>by rcases hk with hk|hk|hk;exact hk.elim;omega;omega))⟩
 case hIx=>
  rintro c pre A C ⟨hc,b1,⟨p,x,h1,h2,h3,b2,b3⟩,hB⟩ ht;exact⟨hc,ht.boxed b1 (by simp<;>omega),⟨p,x,h1,h2,h3,ht.boxed b2 (by simp<;>omega),ht.boxed b3 (by simp<;>omega)⟩,hB.trans (ht.below hB.size (λk hk=>by rcases hk with hk|hk;omega;omega))⟩
 case h0=>
  have b1:=(((Boxed.new w 67 (aF none 0 0)).alloc (.cells #[aB aC 0] 3)).alloc (.cells #[aB aC 0] 26)).alloc (.cells #[aF none 0 0] 67) |>.alloc (.cells #[aD s] 9)
  have b2:=((Boxed.new (w.alloc (.cells #[aF none 0 0] 67)) 3 (aB aC 0)).alloc (.cells #[aB aC 0] 26)).alloc (.cells #[aF none 0 0] 67) |>.alloc (.cells #[aD s] 9)
  have b3:=(Boxed.new ((w.alloc (.cells #[aF none 0 0] 67)).alloc (.cells #[aB aC 0] 3)) 26 (aB aC 0)).alloc (.cells #[aF none 0 0] 67) |>.alloc (.cells #[aD s] 9)
  have b4:=(Boxed.new (((w.alloc (.cells #[aF none 0 0] 67)).alloc (.cells #[aB aC 0] 3)).alloc (.cells #[aB aC 0] 26)) 67 (aF none 0 0)).alloc (.cells #[aD s] 9);simp only[World.size_alloc]at b2 b3 b4;exact⟨⟨b1,b2,b3⟩,⟨_,b4,World.ownsRow_nil _ _ _ _⟩,(λx hx=>by cases hx),aG⟩
 case hiter=>
  intro o1 o2;have b5:=(Boxed.new ((((w.alloc (.cells #[aF none 0 0] 67)).alloc (.cells #[aB aC 0] 3)).alloc (.cells #[aB aC 0] 26)).alloc (.cells #[aF none 0 0] 67)) 9 (aD s)).alloc o1 |>.alloc o2
  simp only[World.size_alloc]at b5;exact Cs s _ _ _ b5 om om
 case hround=>
  rintro l pre ⟨kd,xa,xt,xe⟩ A hx ⟨_,_,_,hBA⟩ hsz;simp only[LE.vals];gi_wp2;refine⟨(aJ.refl _ _).alloc _,λA2 ht hI2 hs2=> ?_⟩;have hx2:A2.heap[A.heap.size]? =some (.cells #[aB aC kd,aB aC xa,aD ⟨xt.toArray⟩] 92):=(ht.block _ (by simp) om).trans (World.alloc_heap_new A _);have c0:A2.cell? ⟨A.heap.size,0,none⟩=some (aB aC kd):=by simp[World.cell?,hx2]
  have c1:A2.cell? ⟨A.heap.size,1,none⟩=some (aB aC xa):=by simp[World.cell?,hx2]
  have c2:A2.cell? ⟨A.heap.size,2,none⟩=some (aD ⟨xt.toArray⟩):=by simp[World.cell?,hx2]
  clear hx2 ht;obtain⟨⟨b1,b2,b3⟩,⟨v,bv,ho⟩,he,hB⟩:=hI2;have d1:=b1.cell;have d2:=b2.cell;have d3:=b3.cell;have d4:=bv.cell;have e1:=b1.frozen;have e2:=b2.frozen;have e3:=b3.frozen;have hxe:=ON 0 s.data.toList _ (hx.subset (List.mem_append_right _ (fW.2 rfl)));simp only at hxe;have HX:=aA hx;have HE:=aA he;have HB:=aA hB;have hlen:pre.length<=1000000000:=by
   have h1:=hx.length_le;have h2:=C8 0 s.data.toList;rw[cU]at h2;simp at h1;omega
  have hs3:w.heap.size+8<=A2.heap.size:=by rw[hs2];simp;omega
  clear hx he hB hs2;rcases hxe with rfl|rfl
  .simp only[Int.natCast_zero];gi_wp2_with (gi_at_builtin;go_loud(refine CW rfl _ _ 67 rfl Ij (w.heap.size+7) rfl (ho.alloc _) (by simp;omega) ⟨_,0,none⟩ 0 1 [aB aC kd,aB aC xa,aD ⟨xt.toArray⟩] rfl rfl (eR (c:= #[aB aC kd,aB aC xa,aD ⟨xt.toArray⟩]) (by simp[go_sem])) (by simp[gC]) (by unfold maxLen;omega) om ?_);intro g cap W' ho' ht';have bv':=ht'.boxed (bv.alloc _) om;have d5:=bv'.cell;have e5:=bv'.frozen)
   have hT:aJ (λk=>w.heap.size<=k/\k<w.heap.size+4\/w.heap.size+7<=k) A2 (W'.setCell ⟨w.heap.size+1+1+1,0,none⟩ (aF (some ⟨g,0,none⟩) (pre.length+0+1) cap)):=
    (((aJ.refl _ _).alloc _).trans (ht'.mono λk hk=>Or.inr hk)).setCell (Or.inr (by show _\/_;simp<;>omega)) _
   refine⟨hT,⟨(ht'.boxed (b1.alloc _) om).other om _,(ht'.boxed (b2.alloc _) om).other om _,(ht'.boxed (b3.alloc _) om).other om _⟩,⟨_,bv'.set _, ?_⟩, ?_,HB.out.trans (hT.below HB.out.size (λk hk=>by rcases hk with hk|hk<;>omega))⟩
   .have h1:=(aJ.setCell (pv:=λk=>k=w.heap.size+1+1+1) (aJ.refl _ W') (p:=⟨w.heap.size+1+1+1,0,none⟩) (Or.inr rfl) (aF (some ⟨g,0,none⟩) (pre.length+0+1) cap)).own ho' (λk hk=>by omega);rw[List.map_append,List.map_singleton,Hu,aZ];exact h1
   .intro y hy;rcases List.mem_append.1 hy with hy|hy
    .exact HE.out y hy
    .rw[fW]at hy;subst hy;rfl
  .simp only[Int.cast_ofNat_Int];gi_wp2;have hmx:=bX;gi_region_with_o (fail)
   all_goals gi_wp2
   all_goals
    have hT:aJ (λk=>w.heap.size<=k/\k<w.heap.size+4\/w.heap.size+7<=k) A2 (((A2.setCell ⟨w.heap.size,0,none⟩ (aF none 0 0)).setCell ⟨w.heap.size+1,0,none⟩ (aB aC xa)).setCell ⟨w.heap.size+1+1,0,none⟩ (aB aC 2)).drew:=
     ((((aJ.refl _ _).setCell (Or.inr (by show _\/_;simp<;>omega)) _).setCell (Or.inr (by show _\/_;simp<;>omega)) _).setCell (Or.inr (by show _\/_;simp<;>omega)) _).drew
    exact⟨hT,rfl,((b1.set _).other om _).other om _,⟨pre,⟨kd,xa,xt,2⟩,rfl,HE.out,by simp,((b2.other om _).set _).other om _,((b3.other om _).other om _).set _⟩,HB.out.trans (hT.below HB.out.size (λk hk=>by rcases hk with hk|hk<;>omega))⟩
 case hdone=>
  rintro W ⟨⟨b1,b2,b3⟩,⟨v,bv,ho⟩,he,hB⟩ hK;have d1:=b1.cell;have d2:=b2.cell;have d3:=b3.cell;have d4:=bv.cell;have e1:=b1.frozen;have e2:=b2.frozen;have e3:=b3.frozen;have hrd:=Rd.own ho;obtain⟨_,_,A',c',hv,_⟩:=hrd;subst hv;gi_wp2;have hT:aJ (λk=>w.heap.size<=k/\k<w.heap.size+3) W (((W.setCell ⟨w.heap.size,0,none⟩ (aF A' (jZ 0 s.data.toList).length c')).setCell ⟨w.heap.size+1,0,none⟩ (aB aC 0)).setCell ⟨w.heap.size+1+1,0,none⟩ (aB aC 0)):=
   (((aJ.refl _ _).setCell (Or.inr (by show _/\_;simp<;>omega)) _).setCell (Or.inr (by show _/\_;simp<;>omega)) _).setCell (Or.inr (by show _/\_;simp<;>omega)) _
  have hK2:=(hT.block (w.heap.size+5) (Array.getElem?_eq_some_iff.1 hK).1 om).trans hK;have f1:=((b1.set (aF A' (jZ 0 s.data.toList).length c')).other (B':=w.heap.size+1) om (aB aC 0)).other (B':=w.heap.size+1+1) om (aB aC 0);have f2:=((b2.other (B':=w.heap.size) om (aF A' (jZ 0 s.data.toList).length c')).set (aB aC 0)).other (B':=w.heap.size+1+1) om (aB aC 0);have f3:=((b3.other (B':=w.heap.size) om (aF A' (jZ 0 s.data.toList).length c')).other (B':=w.heap.size+1) om (aB aC 0)).set (aB aC 0);have ho2:=hT.own ho (λk hk=>by omega);have hB2:=hB.trans (hT.below hB.size (λk hk=>by omega));clear b1 b2 b3 bv ho hB hK hT d1 d2 d3 d4 e1 e2 e3;generalize(((W.setCell ⟨w.heap.size,0,none⟩ (aF A' (jZ 0 s.data.toList).length c')).setCell ⟨w.heap.size+1,0,none⟩ (aB aC 0)).setCell ⟨w.heap.size+1+1,0,none⟩ (aB aC 0))=V at*;have hT:aJ (λk=>k=w.heap.size+5) V (V.putObj (w.heap.size+5) (.deferred none)):=aJ.putObj (pv:=λk=>k=w.heap.size+5) (aJ.refl _ _) (Or.inr rfl) _;have g1:=(hT.boxed f1 om).cell;have g2:=(hT.boxed f2 om).cell;have g3:=(hT.boxed f3 om).cell;refine⟨by simp,.inl ⟨_,_,rfl,run_takeDeferred hK2, ?_⟩⟩;refine⟨aN #[aF A' (jZ 0 s.data.toList).length c',aB aC 0,aB aC 0], ?_,⟨aF A' (jZ 0 s.data.toList).length c',hB2.trans (hT.below hB2.size (λk hk=>by omega)), ?_⟩⟩
  .simp[results,Tryz.results26,go_sem,g1,g2,g3]
  .rw[SF,O1 he];refine⟨rfl, ?_⟩;rw[List.length_map];exact zL (hT.own ho2 (λk hk=>by omega)) om
 case hstop=>
  rintro c pre x W hx ⟨rfl,b1,⟨p,y,hp,he,hne,b2,b3⟩,hB⟩ hK;gi_wp2;have hT:aJ (λk=>k=w.heap.size+5) W (W.putObj (w.heap.size+5) (.deferred none)):=aJ.putObj (pv:=λk=>k=w.heap.size+5) (aJ.refl _ _) (Or.inr rfl) _;have g1:=(hT.boxed b1 om).cell;have g2:=(hT.boxed b2 om).cell;have g3:=(hT.boxed b3 om).cell;have h2:y.err=2:=by
   rcases ON 0 s.data.toList y (hx.subset (by rw[hp];simp))with h|h
   .exact absurd h hne
   .exact h
  rw[h2]at g3;refine⟨by simp,.inl ⟨_,_,rfl,run_takeDeferred hK, ?_⟩⟩;refine⟨aN #[aF none 0 0,aB aC y.at_,aB aC 2], ?_,⟨aF none 0 0,hB.trans (hT.below hB.size (λk hk=>by omega)), ?_⟩⟩
  .simp[results,Tryz.results26,go_sem,g1,g2,g3]
  .rw[SF,O2 (hp ▸ hx) he hne]
def zI:Option Bs->Value
 |some q=> aN #[aD ⟨q.toArray⟩,aI true]
 |none=> aN #[aD ⟨#[]⟩,aI false]
def oN (out:Bs) (r:Bs):Option Bs:=if r.any iO then none else some (out++uU r++[34])
theorem Bt (out:Bs) {c:UInt8} (r:Bs) (h:iO c=true):oN out (c::r)=none:=by simp[oN,h]
theorem Bu (out:Bs) {c:UInt8} (r:Bs) (h:iO c=false) (hc:c.toNat=34\/c.toNat=92):oN out (c::r)=oN (out++[92]++[c]) r:=by
 simp[oN,h,uU,hc]
theorem Br (out:Bs) {c:UInt8} (r:Bs) (h:iO c=false) (hc: ¬(c.toNat=34\/c.toNat=92)):oN out (c::r)=oN (out++[c]) r:=by
 simp[oN,h,uU,hc]
theorem Bq (s:ByteArray) (w:World) (hm:s.size<=35184372088832):Calls aE 58 #[aD s] w (aH (zI (xI s.data.toList)) w):=by
 have HQ:Hid (oN [34] s.data.toList=xI s.data.toList):=by show _=_;simp[oN,xI]
 generalize xI s.data.toList=R at*;go_enter Tryz.func58,Tryz.ntmps58;go_wp2_with fail
 go_loopw [4,11] (λv i wr=> ∃(k:Nat) (out:Bs),k<=s.size/\out.length<=2*k+1/\i=aB aC k/\Below w.heap.size w wr/\wr.ownsRow w.heap.size 5 1 v out.length (out.map bv)/\iV wr (w.heap.size+1) 5 s/\Hid (oN out (s.data.toList.drop k)=R)) (λ_ i _=>s.size-(intOf i).toNat)
 case atStart=>
  refine⟨0,[34],by omega,by simp,rfl,aG,jT (lW (c:= #[.int .u8 34]) rfl (by unfold maxLen;omega)) _, ?_,HQ⟩;have:=iV.new (w.alloc (Obj.cells #[.int .u8 34] 5)) 5 s;rwa[World.size_alloc]at this
 case round=>
  obtain⟨k,out,hk,hout,rfl,hB,hown,hby,HK⟩:=hrel;have hsz:=hB.size;by_cases hlt:k<s.size
  .have hc:=hby.cell k hlt;have HD:=aA (oB s k hlt);have HBY:=aA hby;have HB:=aA hB;have HO:=aA hown;clear hB hby;cases ho:iO s[k]
   .have HL:Hid ((out++[s[k]]).map bv=out.map bv++[.int .u8 (s[k].toNat:Int)]):=by show _=_;simp[bv]
    have HL2:Hid ((out++[s[k]]).length=out.length+1):=by show _=_;simp
    have HM:Hid ((out++[92]++[s[k]]).map bv=out.map bv++[.int .u8 92]++[.int .u8 (s[k].toNat:Int)]):=by show _=_;simp[bv]
    have HM2:Hid ((out++[92]++[s[k]]).length=out.length+1+1):=by show _=_;simp
    by_cases hq:s[k].toNat=34\/s[k].toNat=92
    .have HN:=aA (show oN (out++[92]++[s[k]]) (s.data.toList.drop (k+1))=R by rw[<-HK.out,HD.out,Bu _ _ ho hq]);have hd2:((s[k].toNat:Int)==34)=true\/((s[k].toNat:Int)==34)=false/\((s[k].toNat:Int)==92)=true:=by
      by_cases h:s[k].toNat=34
      .exact Or.inl (by simp;omega)
      .exact Or.inr ⟨by simp;omega,by simp;omega⟩
     clear hq;rcases hd2 with q1|⟨q1,q2⟩
     all_goals
      go_wp2_with(first|(go_at_call 112;(with_reducible refine zQ (BM s[k] _) ?_);rw[ho])|(at_builtin;refine mJ rfl _ _ 130 rfl AD w.heap.size rfl (hown.alloc _) (by simp;omega) ⟨_,0,none⟩ 1 1 [.int .u8 92] rfl rfl (eR (c:= #[.int .u8 92]) (by simp[go_sem])) (by simp[gC]) (by unfold maxLen;omega) om ?_;intro v1 W1 hown1 hg1;have hB1:=aA (HB.out.trans (((Below.refl _ _).alloc hsz _).trans (xZ (hown.alloc _) hg1 (bA _) (by simp;omega))));have hBy1:=aA ((HBY.out.alloc _).kept (hown.alloc _) hg1);clear hg1;have hsz1:=hB1.out.size)|(at_builtin;refine mJ rfl _ _ 130 rfl AD w.heap.size rfl (hown1.alloc _) (by simp;omega) ⟨_,0,none⟩ 1 1 [.int .u8 (s[k].toNat:Int)] rfl rfl (eR (c:= #[.int .u8 (s[k].toNat:Int)]) (by simp[go_sem])) (by simp[gC]) (by unfold maxLen;omega) om ?_;intro v2 W2 hown2 hg2;have hB2:=aA (hB1.out.trans (((Below.refl _ _).alloc hsz1 _).trans (xZ (hown1.alloc _) hg2 (bA _) (by simp;omega))));have hBy2:=aA ((hBy1.out.alloc _).kept (hown1.alloc _) hg2);clear hg2))
      go_roundw
      case rel=>exact⟨k+1,out++[92]++[s[k]],by omega,by rw[HM2.out];omega,by go_num,hB2.out,by rw[HM.out,HM2.out];exact hown2,hBy2.out,HN⟩
      case measure=>simp[intOf];omega
    .have HN:=aA (show oN (out++[s[k]]) (s.data.toList.drop (k+1))=R by rw[<-HK.out,HD.out,Br _ _ ho hq]);have q1:((s[k].toNat:Int)==34)=false:=by simp;omega
     have q2:((s[k].toNat:Int)==92)=false:=by simp;omega
     clear hq;go_wp2_with(first|(go_at_call 112;(with_reducible refine zQ (BM s[k] _) ?_);rw[ho])|(at_builtin;refine mJ rfl _ _ 130 rfl AD w.heap.size rfl (hown.alloc _) (by simp;omega) ⟨_,0,none⟩ 1 1 [.int .u8 (s[k].toNat:Int)] rfl rfl (eR (c:= #[.int .u8 (s[k].toNat:Int)]) (by simp[go_sem])) (by simp[gC]) (by unfold maxLen;omega) om ?_;intro v1 W1 hown1 hg1;have hB1:=aA (HB.out.trans (((Below.refl _ _).alloc hsz _).trans (xZ (hown.alloc _) hg1 (bA _) (by simp;omega))));have hBy1:=aA ((HBY.out.alloc _).kept (hown.alloc _) hg1);clear hg1))
     go_roundw
     case rel=>exact⟨k+1,out++[s[k]],by omega,by rw[HL2.out];omega,by go_num,hB1.out,by rw[HL.out,HL2.out];exact hown1,hBy1.out,HN⟩
     case measure=>simp[intOf];omega
   .have HV:=aA (show zI R=aN #[aD ⟨#[]⟩,aI false] by rw[<-HK.out,HD.out,Bt _ _ ho];rfl);go_wp2_with(go_at_call 112;(with_reducible refine zQ (BM s[k] _) ?_);rw[ho])
    go_ret2;exact aH.of (by rw[HV.out];rfl) HB.out
  .have HE:=aA (uW s k om);have HV:=aA (show zI R=aN #[aD ⟨(out++[34]).toArray⟩,aI true] by rw[<-HK.out,HE.out];simp[oN,uU,zI]);have HL:Hid ((out++[34]).map bv=out.map bv++[.int .u8 34]):=by show _=_;simp[bv]
   have HL2:Hid ((out++[34]).length=out.length+1):=by show _=_;simp
   have HB:=aA hB;clear hB hby;go_wp2_with(at_builtin;refine mJ rfl _ _ 130 rfl AD w.heap.size rfl (hown.alloc _) (by simp;omega) ⟨_,0,none⟩ 1 1 [.int .u8 34] rfl rfl (eR (c:= #[.int .u8 34]) (by simp[go_sem])) (by simp[gC]) (by unfold maxLen;omega) om ?_;intro v1 W1 hown1 hg1;have hB1:=aA (HB.out.trans (((Below.refl _ _).alloc hsz _).trans (xZ (hown.alloc _) hg1 (bA _) (by simp;omega))));clear hg1;have hown2:W1.ownsRow w.heap.size 5 1 v1 (out++[34]).length ((out++[34]).map bv):=by {rw[HL.out,HL2.out];exact hown1};have hcv:=(Rd.own hown2).str 130 9 5 Tryz.underlying130 Tryz.underlying5 Tryz.underlying9)
   go_ret2;exact aH.of (by rw[HV.out];rfl) hB1.out
