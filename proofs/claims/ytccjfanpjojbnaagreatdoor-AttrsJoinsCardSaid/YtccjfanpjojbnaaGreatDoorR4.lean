import Derived.Test.YtccjfanpjojbnaaGreatDoorParI
namespace Go.Proofs.YtccjfanpjojbnaaGreatDoor
open Go.Ending renaming returned→aL
open Go.IntKind renaming i64→aC
open Lib renaming hid→aA
open List renaming length_append→aZ,length_cons→aY,length_nil→dY,mem_cons_of_mem→fO
open Nat renaming le_refl→bA,le_trans→bG
open Tryz renaming prog→aE
open Go.Value renaming agg→aR,bool→aI,int→aB,pointer→aM,slice→aF,tuple→aN
set_option maxRecDepth 100000
set_option maxHeartbeats 1000000
theorem G5 {en:Nat} {l q:List Lx} {ws:List Bs} (h:eP en l= .ok (ws,q)): ∀x∈q,x∈l:=by
 unfold eP at h;split at h
 .cases h
 .next x r ht=>
  obtain⟨rfl,_⟩:=iI ht;split at h
  .cases h
  .next us q2 hm=>
   cases h;unfold pZ at hm;split at hm
   .cases hm
   .next y q3 ht2=>
    cases hm;obtain⟨h3,_⟩:=iI ht2;intro z hz;exact fO _ ((List.dropWhile_suffix _).subset (by rw[h3];exact fO _ hz))
theorem Eo {en a:Nat} {what:Bs} {l q:List Lx} {told told':List Bs} (h:iB en a what l told= .ok (q,told')): ∀x∈q,x∈l:=by
 unfold iB at h;split at h
 .cases h
 .next x r ht=>
  obtain⟨rfl,_⟩:=iI ht;split at h
  .cases h
  .cases h;exact λx hx=>fO _ hx
structure rL (s t:Ps):Prop where
 mem: ∀x∈t.rest,x∈s.rest
 len:t.rest.length<=s.rest.length
 told:t.told.length+t.rest.length<=s.told.length+s.rest.length
 rows: ∀j,fN t.pol j+t.rest.length<=fN s.pol j+s.rest.length
theorem rL.cons {s t:Ps} {x:Lx} {q:List Lx} (h:rL ⟨q,s.pol,s.told⟩ t) (hx:s.rest=x::q):rL s t:=by
 refine⟨λy hy=>by rw[hx];exact fO _ (h.mem y hy), ?_, ?_,λj=> ?_⟩
 .have:=h.len;rw[hx,aY];simp only at this;omega
 .have:=h.told;rw[hx,aY];simp only at this;omega
 .have:=h.rows j;rw[hx,aY];simp only at this;omega
theorem Sr (p:aO) (tag:Bs) (ws:List Bs) (j:Nat):fN (iU p tag ws) j<=fN p j+ws.length:=by
 rcases j with _|_|_|_|_|j<;>simp[fN,iU]
theorem Sj (k:Nat) (p:aO) (ws:List Bs) (j:Nat):fN (jM k p ws) j<=fN p j+ws.length:=by
 rcases k with _|_|_|k<;>rcases j with _|_|_|_|_|j<;>simp[fN,jM]
theorem PE {en:Nat} {s:Ps} {ws:List Bs} {q:List Lx} {p:aO} (h:eP en s.rest= .ok (ws,q)) (hp: ∀j,fN p j<=fN s.pol j+ws.length):rL s ⟨q,p,s.told⟩:=by
 obtain⟨h1,h2⟩:=yP h;refine⟨G5 h,by simp only;omega,by simp only;omega,λj=> ?_⟩;have:=hp j;simp only;omega
theorem rL.trans {s t u:Ps} (h:rL s t) (k:rL t u):rL s u:=
 ⟨λx hx=>h.mem x (k.mem x hx),bG k.len h.len,bG k.told h.told,λj=>bG (k.rows j) (h.rows j)⟩
theorem uV {s:Ps} {x:Lx} {q:List Lx} (h:s.rest=x::q):rL s ⟨q,s.pol,s.told⟩:=by
 refine⟨λy hy=>by rw[h];exact fO _ hy, ?_, ?_,λj=> ?_⟩<;>(rw[h,aY];simp only;omega)
theorem LI {en a:Nat} {what:Bs} {s:Ps} {q:List Lx} {told:List Bs} {p:aO} (h:iB en a what s.rest s.told= .ok (q,told)) (hp: ∀j,fN p j<=fN s.pol j+1):rL s ⟨q,p,told⟩:=by
 obtain⟨h1,_,rfl⟩:=ES h;refine⟨Eo h,by simp only;omega,by simp only[aY];omega,λj=> ?_⟩;have:=hp j;simp only;omega
theorem Q8 {en k a:Nat} {s t:Ps} (h:sub en k a s= .ok t):rL s t:=by
 unfold sub at h;split at h
 .unfold sN at h;split at h
  .split at h
   .cases h
   .next y r hq=>
    split at h
    .cases h
    .next z q2 h2=>
     obtain⟨h3,_⟩:=iI h2;split at h
     .cases h
     .next ws q3 hw=>
      cases h;have a1:=uV hq;have a2:=uV (s:=⟨r,s.pol,s.told⟩) h3;exact a1.trans (a2.trans (PE (s:=⟨q2,s.pol,s.told⟩) hw (Sr s.pol y.text ws)))
  .cases h
 .unfold xH at h;split at h
  .cases h
  .next x q h2=>
   obtain⟨h3,_⟩:=iI h2;split at h
   .cases h
   .next ho=>cases h;exact(uV h3).trans (LI (s:=⟨q,s.pol,s.told⟩) ho (λj=>by rcases j with _|_|_|_|_|j<;>simp[fN]))
 .unfold nX at h;split at h
  .cases h
  .next x q h2=>
   obtain⟨h3,_⟩:=iI h2;split at h
   .cases h
   .next y q2 h4=>
    obtain⟨h5,_⟩:=iI h4;split at h
    .cases h
    .next z q3 h6=>
     obtain⟨h7,_⟩:=iI h6;split at h
     .cases h
     .next ho=>
      cases h;exact(uV h3).trans ((uV (s:=⟨q,s.pol,s.told⟩) h5).trans ((uV (s:=⟨q2,s.pol,s.told⟩) h7).trans (LI (s:=⟨q3,s.pol,s.told⟩) ho (λj=>by rcases j with _|_|_|_|_|j<;>simp[fN]))))
 .unfold nW at h;split at h
  .cases h
  .next x q h2=>
   obtain⟨h3,_⟩:=iI h2;split at h
   .cases h
   .next y q2 h4=>
    obtain⟨h5,_⟩:=iI h4;split at h
    .cases h
    .next ho=>
     split at h
     .cases h;exact(uV h3).trans ((uV (s:=⟨q,s.pol,s.told⟩) h5).trans (LI (s:=⟨q2,s.pol,s.told⟩) ho (λj=>by unfold gE;split<;>(try split)<;>(rcases j with _|_|_|_|_|j<;>simp[fN]))))
     .cases h
 .split at h
  .cases h
  .next ws q hw=>cases h;exact PE hw (Sj _ s.pol ws)
theorem RK {en:Nat} {s t:Ps} (h:eZ en s= .ok t):rL s t:=by
 cases h1:dE en 1 iQ s.rest with
 |error f=>unfold eZ at h;rw[h1]at h;cases h
 |ok p=>
  obtain⟨x,q⟩:=p;obtain⟨h3,h4⟩:=iI h1;have hx:x.text∈iQ:=(wB h4).2 dc;obtain⟨k,hk,he⟩:=List.getElem_of_mem hx;rw[RI h1 k hk he.symm]at h;exact(uV h3).trans (Q8 h)
theorem nF.stmt {en:Nat} {s t:Ps} (hs:nF s) (h:eZ en s= .ok t):nF t:=by
 have g:=RK h;exact⟨bG g.len hs.rest,λx hx=>hs.txt x (g.mem x hx),bG g.told hs.told,λj=>bG (g.rows j) (hs.rows j)⟩
theorem KB: ∀(m:Nat) (l t:Bs) (n:Nat),l.length<=m->eY l= .ok t n->t.length<=n
 |_,[],t,n,_,h=>by rw[eY.eq_def]at h;cases h
 |0,_::_,_,_,hm,_=>by simp at hm
 |m+1,c::r,t,n,hm,h=>by
  simp only[aY]at hm;by_cases h34:c.toNat=34
  .rw[DT r h34]at h;cases h;simp
  by_cases h92:c.toNat=92
  .cases r with
   |nil=>rw[DW h92]at h;cases h
   |cons d r=>
    by_cases hd:d.toNat=92\/d.toNat=34
    .rw[DY r h92 hd]at h;cases hs:eY r with
     |ok t' n'=>
      rw[hs]at h;cases h;have ih:=KB m r t' n' (by simp only[aY]at hm;omega) hs;simp only[aZ,aY,dY];omega
     |bad n=>rw[hs]at h;cases h
     |op=>rw[hs]at h;cases h
    .rw[DX r h92 hd]at h;cases h
  by_cases ho:iO c=true
  .rw[DV r h34 h92 ho]at h;cases h
  .rw[DU r h34 h92 ho]at h;cases hs:eY r with
   |ok t' n'=>
    rw[hs]at h;cases h;have ih:=KB m r t' n' om hs;simp only[aZ,aY,dY];omega
   |bad n=>rw[hs]at h;cases h
   |op=>rw[hs]at h;cases h
theorem Cv {l t:Bs} {k n:Nat} (h:iA l= .ok k t n):t.length<=n:=by
 unfold iA at h;split at h
 .cases h
 .next c r=>
  split at h
  .split at h
   .next t' n' hs=>
    simp only[PR.ok.injEq]at h;obtain⟨_,rfl,rfl⟩:=h;have:=KB _ r _ _ (bA _) hs;omega
   .cases h
   .cases h
  .split at h
   .split at h
    .simp only[PR.ok.injEq]at h;obtain⟨_,rfl,rfl⟩:=h;simp only[aY];omega
    .cases h
   .split at h
    .split at h
     .simp only[PR.ok.injEq]at h;obtain⟨_,rfl,rfl⟩:=h;simp only[aY];omega
     .cases h
    .split at h
     .simp only[PR.ok.injEq]at h;obtain⟨_,rfl,rfl⟩:=h;simp
     .cases h
theorem Cx {l t:Bs} {k n:Nat} (h:iA l= .ok k t n):1<=n:=by
 unfold iA at h;split at h
 .cases h
 .next c r=>
  repeat' split at h
  all_goals first|(cases h;omega)|(cases h)|(simp only[PR.ok.injEq]at h;omega)
theorem SG: ∀(f a:Nat) (l:Bs) (L:List Lx),pU f a l= .ok L->L.length<=l.length/\ ∀x∈L,x.text.length<=l.length
 |0,_,_,L,h=>by
  simp only[pU,SR.ok.injEq]at h;subst h;exact⟨by simp,λ_ hx=>(by cases hx)⟩
 |f+1,a,l,L,h=>by
  simp only[pU]at h;split at h
  .simp only[SR.ok.injEq]at h;subst h;exact⟨by simp,λ_ hx=>(by cases hx)⟩
  .next c r hr=>
   have hlr:=congrArg List.length hr;rw[List.length_drop]at hlr;split at h
   .next k t n hp=>
    obtain⟨M,h1,rfl⟩:=SR.cons_ok h;have hle:=(xJ _).1 _ _ _ hp;have ht:=Cv hp;have hpos:=Cx hp;have ih:=SG f _ _ M h1;rw[List.length_drop]at ih;refine⟨by rw[aY];have:=ih.1;omega,λx hx=> ?_⟩;rcases List.mem_cons.1 hx with rfl|hx
    .simp only;omega
    .have:=ih.2 x hx;omega
   .cases h
theorem RO {s:Bs} {l:List Lx} (h:xF 0 s= .ok l) (hs:s.length<=8192):nF ⟨l,pV,[]⟩/\gP s.length l:=by
 have h1:=SG _ _ _ _ h;have h2:=ED _ 0 s.length _ _ om h;refine⟨⟨by simp only;omega,λx hx=>⟨by have:=h1.2 x hx;omega,by have:=(h2 x hx).at_;omega⟩,by simp only[dY];omega,λj=> ?_⟩,h2⟩;rcases j with _|_|_|_|_|j<;>(simp only[fN,pV,dY];omega)
open Go.RowKit
structure mK (W:World) (O:Nat) (u0 u1 u2 u3 u4 u5 u6 u7 u8 u9:Value):Prop where
 c0:W.cell? ⟨O,0,none⟩=some u0
 c1:W.cell? ⟨O,1,none⟩=some u1
 c2:W.cell? ⟨O,2,none⟩=some u2
 c3:W.cell? ⟨O,3,none⟩=some u3
 c4:W.cell? ⟨O,4,none⟩=some u4
 c5:W.cell? ⟨O,5,none⟩=some u5
 c6:W.cell? ⟨O,6,none⟩=some u6
 c7:W.cell? ⟨O,7,none⟩=some u7
 c8:W.cell? ⟨O,8,none⟩=some u8
 c9:W.cell? ⟨O,9,none⟩=some u9
 fz: ∀j,W.frozen? ⟨O,j,none⟩=false
abbrev yI (W:World) (O:Nat):Prop:=mK W O (aF none 0 0) (aF none 0 0) (aF none 0 0) (aF none 0 0) (aF none 0 0) (aF none 0 0) (aI false) (aB aC 0) (aB aC 0) (aB aC 0)
theorem Qm (p0 p1 p2 p3:Addr) (w:World):
  CallsD aE 27 #[aM (some p0),aM (some p1),aM (some p2),aM (some p3)] .returning w λe u' w'=>e=aL (aN #[])/\u'= .returning/\w'=w:=by
 refine callsD_of_wpS Tryz.func27 rfl λc₀ cs hu=> ?_;simp only[Tryz.ntmps27,List.size_toArray,aY,dY,Nat.reduceAdd,Nat.reduceSub,Array.replicate_succ,Array.replicate_zero,List.push_toArray,List.append_toArray,List.nil_append,List.cons_append];apply wpS_seq;apply wpS_region;simp[wpOpsS,go_sem,recoverD,hu];refine wpS_of_wp ?_;go_wp2
 cases c₀;simp_all [bodyPostS,results,Tryz.results27]
theorem Qn (S:Nat) (s:ByteArray) (f:lC) (older:List PanicEntry) (w:World) {u0 u1 u2 u3 u4 u5 u6 u7 u8 u9:Value} (a0 k0:Int) (hs:w.cell? ⟨S,0,none⟩=some (.string s)) (ho:mK w (S+1) u0 u1 u2 u3 u4 u5 u6 u7 u8 u9)
  (ha:w.cell? ⟨S+2,0,none⟩=some (aB aC a0)) (hk:w.cell? ⟨S+3,0,none⟩=some (aB aC k0)) (hfa:w.frozen? ⟨S+2,0,none⟩=false) (hfk:w.frozen? ⟨S+3,0,none⟩=false):
  CallsD aE 27 #[aM (some ⟨S,0,none⟩),aM (some ⟨S+1,0,none⟩),aM (some ⟨S+2,0,none⟩),aM (some ⟨S+3,0,none⟩)] (.panicking ({v:=zW f,recovered:=false}::older)) w λe u' w'=>
   e=aL (aN #[])/\u'= .panicking ({v:=zW f,recovered:=true}::older)/\yI w' (S+1)/\w'.cell? ⟨S+2,0,none⟩=some (aB aC f.at_)/\w'.cell? ⟨S+3,0,none⟩=some (aB aC f.code)/\aJ (λb=>b=S+1\/b=S+2\/b=S+3) w w':=by
 obtain⟨c0,c1,c2,c3,c4,c5,c6,c7,c8,c9,fz⟩:=ho;have f0:=fz 0;have f1:=fz 1;have f2:=fz 2;have f3:=fz 3;have f4:=fz 4;have f5:=fz 5;have f6:=fz 6;have f7:=fz 7;have f8:=fz 8;have f9:=fz 9;have hb0:=World.block_lt_of_cell? w _ hs;have hb1:=World.block_lt_of_cell? w _ c0;have hb2:=World.block_lt_of_cell? w _ ha;have hb3:=World.block_lt_of_cell? w _ hk;refine callsD_of_wpS Tryz.func27 rfl λc₀ cs hu=> ?_;unfold zW at hu ⊢;generalize(f.at_:Int)=fa at*;generalize(f.code:Int)=fc at*;simp only[Tryz.ntmps27,List.size_toArray,aY,dY,Nat.reduceAdd,Nat.reduceSub,Array.replicate_succ,Array.replicate_zero,List.push_toArray,List.append_toArray,List.nil_append,List.cons_append];apply wpS_seq;apply wpS_region;simp[wpOpsS,go_sem,recoverD,hu];have hta: ∀t0 W,(Instr.typeAssert (.iface 71 (aR #[aB aC fa,aB aC fc])) t0 71 true).run aE W= .ok (aN #[aR #[aB aC fa,aB aC fc],aI true]) W:=λ_ _=>rfl;refine wpS_of_wp ?_;go_upto_region 5 with fail
 refine dL λV hV=> ?_;have hT:aJ (λb=>b=S+1\/b=S+2\/b=S+3) w V:=by rw[hV];exact iX
 have hZ:yI V (S+1):=by
  rw[hV];refine⟨?_, ?_, ?_, ?_, ?_, ?_, ?_, ?_, ?_, ?_,λj=> ?_⟩<;>simp[go_sem, *]
 have ha2:V.cell? ⟨S+2,0,none⟩=some (aB aC s.size):=by rw[hV];simp[go_sem, *]
 have hk2:V.cell? ⟨S+3,0,none⟩=some (aB aC 2):=by rw[hV];simp[go_sem, *]
 have hfa2:V.frozen? ⟨S+2,0,none⟩=false:=by rw[hV];simp[go_sem, *]
 have hfk2:V.frozen? ⟨S+3,0,none⟩=false:=by rw[hV];simp[go_sem, *]
 obtain⟨B,hB⟩: ∃B,w.heap.size=B:=⟨_,rfl⟩;have b0:V.cell? ⟨B,0,none⟩=some (aB aC fa):=by rw[hV,<-hB];simp[go_sem]
 have b1:V.cell? ⟨B,1,none⟩=some (aB aC fc):=by rw[hV,<-hB];simp[go_sem]
 rw[hB];have hBS:S+3<B:=by rw[<-hB];exact hb3
 have HT:=aA hT;have HZ:=aA hZ;clear hV hB hT hZ c0 c1 c2 c3 c4 c5 c6 c7 c8 c9 f0 f1 f2 f3 f4 f5 f6 f7 f8 f9 fz hb0 hb1 hb2 hb3 hs ha hk hfa hfk;go_region;refine⟨rfl,_,rfl,aN #[],by simp[results,Tryz.results27],rfl,rfl, ?_, ?_, ?_, ?_⟩
 .obtain⟨c0,c1,c2,c3,c4,c5,c6,c7,c8,c9,fz⟩:=HZ.out;exact⟨by simp[go_sem,c0],by simp[go_sem,c1],by simp[go_sem,c2],by simp[go_sem,c3],by simp[go_sem,c4],by simp[go_sem,c5],by simp[go_sem,c6],by simp[go_sem,c7],by simp[go_sem,c8],by simp[go_sem,c9],λj=>by simp[go_sem,fz]⟩
 .simp[go_sem,ha2]
 .simp[go_sem,hk2]
 .have hT:=HT.out;exact iX
def DC:Value:= aR #[aF none 0 0,aF none 0 0,aF none 0 0,aF none 0 0,aF none 0 0,aF none 0 0,aI false,aB aC 0,aB aC 0,aB aC 0]
theorem q8 (s:ByteArray) (w:World) (hm:8192<s.size):Calls aE 26 #[.string s] w (aH (aN #[aF none 0 0,aB aC 0,aB aC 3]) w):=by
 have h8:decide ((8192:Int)<s.size)=true:=by simp;omega
 clear hm;go_enter Tryz.func26,Tryz.ntmps26;go_wp2
 refine bodyPost_ret (v:= aN #[aF none 0 0,aB aC 0,aB aC 3]) ?_ rfl (aH.of rfl aG);simp[results,Tryz.results26,go_sem]
theorem RP {w W0:World} {s:ByteArray} {S A K:Nat} {e1 e2 e3 e4:TypeId} (hW0:W0=(((w.alloc (.cells #[.string s] e1)).alloc (.cells #[aF none 0 0,aF none 0 0,aF none 0 0,aF none 0 0,aF none 0 0,aF none 0 0,aI false,aB aC 0,aB aC 0,aB aC 0] e2)).alloc (.cells #[aB aC 0] e3)).alloc (.cells #[aB aC 0] e4))
  (hS:w.heap.size=S) (hA:S+1+1=A) (hK:S+1+1+1=K):
  S+4<=W0.heap.size/\Below S w W0/\W0.cell? ⟨S,0,none⟩=some (.string s)/\yI W0 (S+1)/\W0.cell? ⟨A,0,none⟩=some (aB aC 0)/\W0.cell? ⟨K,0,none⟩=some (aB aC 0)/\W0.frozen? ⟨A,0,none⟩=false/\W0.frozen? ⟨K,0,none⟩=false:=by
 subst hW0 hK hA hS;refine⟨by simp,aG,by simp[go_sem],⟨?_, ?_, ?_, ?_, ?_, ?_, ?_, ?_, ?_, ?_,λj=> ?_⟩, ?_, ?_, ?_, ?_⟩<;>simp[go_sem]
theorem mK.below {W W':World} {O:Nat} {u0 u1 u2 u3 u4 u5 u6 u7 u8 u9:Value} (h:mK W O u0 u1 u2 u3 u4 u5 u6 u7 u8 u9) {B:Nat} (hO:O<B) (hb:Below B W W'):mK W' O u0 u1 u2 u3 u4 u5 u6 u7 u8 u9:=by
 have hc: ∀j,W'.cell? ⟨O,j,none⟩=W.cell? ⟨O,j,none⟩:=λj=>hb.cell hO;exact⟨(hc 0).trans h.c0,(hc 1).trans h.c1,(hc 2).trans h.c2,(hc 3).trans h.c3,(hc 4).trans h.c4,(hc 5).trans h.c5,(hc 6).trans h.c6,(hc 7).trans h.c7,(hc 8).trans h.c8,(hc 9).trans h.c9,λj=>(World.frozen?_of_block (hb.block _ hO)).trans (h.fz j)⟩
theorem KY {W:World} {tmps:Array Value} {O A K:Nat} {a k:Int} {u0 u1 u2 u3 u4 u5 u6 u7 u8 u9:Value} (h2:tmps.getD 2 undef=aM (some ⟨O,0,none⟩)) (h3:tmps.getD 3 undef=aM (some ⟨A,0,none⟩)) (h4:tmps.getD 4 undef=aM (some ⟨K,0,none⟩))
  (hO:mK W O u0 u1 u2 u3 u4 u5 u6 u7 u8 u9) (ha:W.cell? ⟨A,0,none⟩=some (aB aC a)) (hk:W.cell? ⟨K,0,none⟩=some (aB aC k)):
  (results Tryz.f18 tmps).run aE W= .ok (aN #[aR #[u0,u1,u2,u3,u4,u5,u6,u7,u8,u9],aB aC a,aB aC k]) W:=by
 obtain⟨c0,c1,c2,c3,c4,c5,c6,c7,c8,c9,fz⟩:=hO;simp only[Array.getD_eq_getD_getElem?]at h2 h3 h4;simp[results,Tryz.results18,go_sem,h2,h3,h4,c0,c1,c2,c3,c4,c5,c6,c7,c8,c9,ha,hk]
theorem mK.store {W:World} {O:Nat} {u0 u1 u2 u3 u4 u5 u6 u7 u8 u9:Value} (h:mK W O u0 u1 u2 u3 u4 u5 u6 u7 u8 u9) (v0 v1 v2 v3 v4 v5 v6 v7 v8 v9:Value):mK ((((((((((W.setCell ⟨O,0,none⟩ v0).setCell ⟨O,1,none⟩ v1).setCell ⟨O,2,none⟩ v2).setCell ⟨O,3,none⟩ v3).setCell ⟨O,4,none⟩ v4).setCell ⟨O,5,none⟩ v5).setCell ⟨O,6,none⟩ v6).setCell ⟨O,7,none⟩ v7).setCell ⟨O,8,none⟩ v8).setCell ⟨O,9,none⟩ v9) O v0 v1 v2 v3 v4 v5 v6 v7 v8 v9:=by
 obtain⟨c0,c1,c2,c3,c4,c5,c6,c7,c8,c9,fz⟩:=h;exact⟨by simp[go_sem,c0],by simp[go_sem,c1],by simp[go_sem,c2],by simp[go_sem,c3],by simp[go_sem,c4],by simp[go_sem,c5],by simp[go_sem,c6],by simp[go_sem,c7],by simp[go_sem,c8],by simp[go_sem,c9],λj=>by simp[go_sem,fz]⟩
theorem mK.oth {W:World} {O A i:Nat} {u0 u1 u2 u3 u4 u5 u6 u7 u8 u9:Value} (h:mK W O u0 u1 u2 u3 u4 u5 u6 u7 u8 u9) (hA:A≠O) (v:Value):mK (W.setCell ⟨A,i,none⟩ v) O u0 u1 u2 u3 u4 u5 u6 u7 u8 u9:=by
 have hc: ∀j,(W.setCell ⟨A,i,none⟩ v).cell? ⟨O,j,none⟩=W.cell? ⟨O,j,none⟩:=λj=>World.cell?_setCell_other _ _ _ _ (by intro e;cases e;exact hA rfl);exact⟨(hc 0).trans h.c0,(hc 1).trans h.c1,(hc 2).trans h.c2,(hc 3).trans h.c3,(hc 4).trans h.c4,(hc 5).trans h.c5,(hc 6).trans h.c6,(hc 7).trans h.c7,(hc 8).trans h.c8,(hc 9).trans h.c9,λj=>by rw[World.frozen?_setCell];exact h.fz j⟩
theorem mK.drew {W:World} {O:Nat} {u0 u1 u2 u3 u4 u5 u6 u7 u8 u9:Value} (h:mK W O u0 u1 u2 u3 u4 u5 u6 u7 u8 u9):mK W.drew O u0 u1 u2 u3 u4 u5 u6 u7 u8 u9:=⟨h.c0,h.c1,h.c2,h.c3,h.c4,h.c5,h.c6,h.c7,h.c8,h.c9,h.fz⟩
theorem yW {W:World} {O A:Nat} (hA:A≠O) (v0 v1 v2 v3 v4 v5 v6 v7 v8 v9:Value):((((((((((W.setCell ⟨O,0,none⟩ v0).setCell ⟨O,1,none⟩ v1).setCell ⟨O,2,none⟩ v2).setCell ⟨O,3,none⟩ v3).setCell ⟨O,4,none⟩ v4).setCell ⟨O,5,none⟩ v5).setCell ⟨O,6,none⟩ v6).setCell ⟨O,7,none⟩ v7).setCell ⟨O,8,none⟩ v8).setCell ⟨O,9,none⟩ v9).cell? ⟨A,0,none⟩=W.cell? ⟨A,0,none⟩:=by
 rw[World.cell?_setCell_other _ _ _ _ (by intro e;cases e<;>exact hA rfl),World.cell?_setCell_other _ _ _ _ (by intro e;cases e<;>exact hA rfl),World.cell?_setCell_other _ _ _ _ (by intro e;cases e<;>exact hA rfl),World.cell?_setCell_other _ _ _ _ (by intro e;cases e<;>exact hA rfl),World.cell?_setCell_other _ _ _ _ (by intro e;cases e<;>exact hA rfl),World.cell?_setCell_other _ _ _ _ (by intro e;cases e<;>exact hA rfl),World.cell?_setCell_other _ _ _ _ (by intro e;cases e<;>exact hA rfl),World.cell?_setCell_other _ _ _ _ (by intro e;cases e<;>exact hA rfl),World.cell?_setCell_other _ _ _ _ (by intro e;cases e<;>exact hA rfl),World.cell?_setCell_other _ _ _ _ (by intro e;cases e<;>exact hA rfl)]
theorem RH {W V:World} {S O:Nat} (hS:S<=O) (h:Below S V W) (v0 v1 v2 v3 v4 v5 v6 v7 v8 v9:Value):Below S V ((((((((((W.setCell ⟨O,0,none⟩ v0).setCell ⟨O,1,none⟩ v1).setCell ⟨O,2,none⟩ v2).setCell ⟨O,3,none⟩ v3).setCell ⟨O,4,none⟩ v4).setCell ⟨O,5,none⟩ v5).setCell ⟨O,6,none⟩ v6).setCell ⟨O,7,none⟩ v7).setCell ⟨O,8,none⟩ v8).setCell ⟨O,9,none⟩ v9):=((((((((((h.setCell (p:=⟨O,0,none⟩) hS v0).setCell (p:=⟨O,1,none⟩) hS v1).setCell (p:=⟨O,2,none⟩) hS v2).setCell (p:=⟨O,3,none⟩) hS v3).setCell (p:=⟨O,4,none⟩) hS v4).setCell (p:=⟨O,5,none⟩) hS v5).setCell (p:=⟨O,6,none⟩) hS v6).setCell (p:=⟨O,7,none⟩) hS v7).setCell (p:=⟨O,8,none⟩) hS v8).setCell (p:=⟨O,9,none⟩) hS v9)
theorem NL {W:World} {A K:Nat} {x y a k:Value} (h:A≠K) (ca:W.cell? ⟨A,0,none⟩=some x) (ck:W.cell? ⟨K,0,none⟩=some y):((W.setCell ⟨A,0,none⟩ a).setCell ⟨K,0,none⟩ k).drew.cell? ⟨A,0,none⟩=some a/\((W.setCell ⟨A,0,none⟩ a).setCell ⟨K,0,none⟩ k).drew.cell? ⟨K,0,none⟩=some k:=by
 have hd: ∀(X:World) p,X.drew.cell? p=X.cell? p:=λ_ _=>rfl;rw[hd,hd];have h1:(W.setCell ⟨A,0,none⟩ a).cell? ⟨K,0,none⟩=some y:=(World.cell?_setCell_other _ _ _ _ (by intro e;cases e;exact h rfl)).trans ck;exact⟨(World.cell?_setCell_other _ _ _ _ (by intro e;cases e;exact h rfl)).trans (World.cell?_setCell_same _ _ _ ca),World.cell?_setCell_same _ _ _ h1⟩
theorem UA (s:ByteArray) (w:World) (n code:Nat) (hc:code≠0) (HS: ∀W,Calls aE 26 #[.string s] W λe w'=>e=aL (aN #[aF none 0 0,aB aC n,aB aC code])/\Below W.heap.size W w'):
  Calls aE 18 #[.string s] w λe w'=>e=aL (aN #[DC,aB aC n,aB aC code])/\Below w.heap.size w w':=by
 have hmf: ∀(fn:Fn) (first cap:Array Value) (w:World),(Instr.makeFunc fn first cap).run aE w= .ok (.func fn first cap) w:=λ_ _ _ _=>rfl;have HSc:=aA HS;clear HS;go_enter_defers Tryz.func18,Tryz.ntmps18
 go_upto_region 1 with fail
 refine dL λW0 hW0=> ?_;obtain⟨S,hS⟩: ∃S,w.heap.size=S:=⟨_,rfl⟩;obtain⟨K,hK⟩: ∃K,S+1+1+1=K:=⟨_,rfl⟩;obtain⟨A,hA⟩: ∃A,S+1+1=A:=⟨_,rfl⟩;have st:=RP hW0 hS hA hK;rw[hS,hK,hA];obtain⟨hl,hb0,cs,hO,ca,ck,fa,fk⟩:=st;clear hW0;have HO:=aA hO;have HB0:=aA hb0;clear hO hb0;have hcb:((code:Int) !=0)=true:=by simp;omega
 have hAK: ¬A=K:=by omega
 have hKA: ¬K=A:=by omega
 have hOA: ¬S+1=A:=by omega
 have hOK: ¬S+1=K:=by omega
 have hAO: ¬A=S+1:=by omega
 have hKO: ¬K=S+1:=by omega
 have hlA:A<W0.heap.size:=by omega
 have hlK:K<W0.heap.size:=by omega
 have hlO:S+1<W0.heap.size:=by omega
 go_upto_region 2 with(go_at_call 26;(with_reducible refine(HSc.out _).mono ?_);rintro e W1 ⟨rfl,hb1⟩;have HB1:=aA hb1;have ca1:=(hb1.cell (p:=⟨A,0,none⟩) hlA).trans ca;have ck1:=(hb1.cell (p:=⟨K,0,none⟩) hlK).trans ck;have fa1:=(hb1.frozen (p:=⟨A,0,none⟩) hlA).trans fa;have fk1:=(hb1.frozen (p:=⟨K,0,none⟩) hlK).trans fk;clear hb1)
 refine dL λW2 hW2=> ?_;have hO2:yI W2 (S+1):=by
  rw[hW2];obtain⟨c0,c1,c2,c3,c4,c5,c6,c7,c8,c9,fz⟩:=(HO.out.below hlO HB1.out);exact⟨by simp[go_sem,c0],by simp[go_sem,c1],by simp[go_sem,c2],by simp[go_sem,c3],by simp[go_sem,c4],by simp[go_sem,c5],by simp[go_sem,c6],by simp[go_sem,c7],by simp[go_sem,c8],by simp[go_sem,c9],λj=>by simp[go_sem,fz]⟩
 have hb2:Below S w W2:=by
  rw[hW2];have h3:=HB0.out.trans (HB1.out.mono om);exact(h3.setCell (by show S<=A;omega) _).setCell (by show S<=K;omega) _
 have ca2:W2.cell? ⟨A,0,none⟩=some (aB aC n):=by rw[hW2];simp[go_sem,ca1]
 have ck2:W2.cell? ⟨K,0,none⟩=some (aB aC code):=by rw[hW2];simp[go_sem,ck1]
 have fa2:W2.frozen? ⟨A,0,none⟩=false:=by rw[hW2];simp[go_sem,fa1]
 have fk2:W2.frozen? ⟨K,0,none⟩=false:=by rw[hW2];simp[go_sem,fk1]
 clear hW2 ca1 ck1 fa1 fk1 ca ck fa fk cs HO;obtain⟨c0,c1,c2,c3,c4,c5,c6,c7,c8,c9,fz⟩:=hO2;have f0:=fz 0;have f1:=fz 1;have f2:=fz 2;have f3:=fz 3;have f4:=fz 4;have f5:=fz 5;have f6:=fz 6;have f7:=fz 7;have f8:=fz 8;have f9:=fz 9;have HB2:=aA hb2;have HFz:=aA fz;clear hb2 fz;go_upto_region 3 with fail
 go_region;go_wp2
 simp only[bodyPostD,Leaves];have hb3:=HB2.out;have hO3:yI W2 (S+1):=⟨c0,c1,c2,c3,c4,c5,c6,c7,c8,c9,HFz.out⟩;refine⟨_,KY (O:=S+1) (A:=A) (K:=K) rfl rfl rfl ((((hO3.store _ _ _ _ _ _ _ _ _ _).oth hAO _).oth hKO _).drew) ?_ ?_,rfl, ?_⟩
 .exact(NL hAK ((yW hAO _ _ _ _ _ _ _ _ _ _).trans ca2) ((yW hKO _ _ _ _ _ _ _ _ _ _).trans ck2)).1
 .exact(NL hAK ((yW hAO _ _ _ _ _ _ _ _ _ _).trans ca2) ((yW hKO _ _ _ _ _ _ _ _ _ _).trans ck2)).2
 .have hA:S<=A:=by omega
  have hK:S<=K:=by omega
  rw[hS];exact(((RH (Nat.le_succ S) hb3 _ _ _ _ _ _ _ _ _ _).setCell (p:=⟨A,0,none⟩) hA _).setCell (p:=⟨K,0,none⟩) hK _).drew
theorem Rx.ofOwn {W:World} {B:Nat} {e:TypeId} {size:Nat} {v:Value} {n:Nat} {xs:List Value} {bad:Nat->Prop} (h:W.ownsRow B e size v n xs) (hb: ∀b,v.ownBlock=some b-> ¬bad b):Rx W bad v n size xs:=by
 obtain⟨A,c,rfl,_⟩:=dF h;exact⟨A,c,rfl,Eh h,Rd.own h,λ_ b off s he=>hb b (by subst he;rfl)⟩
theorem cW.start {W V:World} {en base:Nat} {A:Option Addr} {n c:Nat} {l:List Lx} {e:TypeId} (hn:n=l.length) (ho:W.ownsRow base 92 3 (aF A n c) n (kG l)) (hc:n<=c)
  (hV:V=(W.alloc (.map #[] 0)).alloc (.cells #[aF A n c,aB aC en,aF none 0 0,aF none 0 0,aF none 0 0,aF none 0 0,aF none 0 0,aF none 0 0,aI false,aB aC 64,aB aC 32,aB aC 1024,.map (some W.heap.size)] e)):
  cW en W.heap.size ⟨l,pV,[]⟩ V:=by
 subst hn;have hb:Below W.heap.size W V:=by rw[hV];exact aG
 have hr:Rx W (λb=>W.heap.size<=b) (aF A l.length c) l.length 3 (kG l):=Rx.ofOwn ho (λb hb=>by have:=(ho.lt b hb).2;omega);have hnil: ∀j,j<6->V.cell? ⟨W.heap.size+1,2+j,none⟩=some (aF none 0 0):=λj hj=>by
  rcases(by omega:j=0\/j=1\/j=2\/j=3\/j=4\/j=5)with rfl|rfl|rfl|rfl|rfl|rfl<;>(rw[hV];simp[go_sem])
 refine⟨⟨⟨A,c,by rw[hV];simp[go_sem],hc,hr.below hb⟩,by rw[hV];simp[go_sem],λj=>by rw[hV];simp[go_sem]⟩,λj hj=>⟨_,hnil j hj, ?_⟩,λi j v u b hi hj _ hv _ hb=> ?_,by rw[hV];simp[go_sem,pV],by rw[hV];simp[go_sem,pV],by rw[hV];simp[go_sem,pV],by rw[hV];simp[go_sem,pV],by rw[hV];simp[go_sem], ?_⟩
 .rcases(by omega:j=0\/j=1\/j=2\/j=3\/j=4\/j=5)with rfl|rfl|rfl|rfl|rfl|rfl<;>exact World.ownsRow_nil _ _ _ _
 .rw[hnil i hi]at hv;cases hv;cases hb
 .refine⟨0,.map [],bA _,by simp, ?_,Maps.isMap_empty,λt=>rfl⟩;rw[hV];exact(World.ownsMap_made W _ _ _).alloc _
theorem cW.polV {en M:Nat} {s:Ps} {W:World} (h:cW en M s W) {v0 v1 v2 v3 v4 v5:Value} (c2:W.cell? ⟨M+1,2,none⟩=some v0) (c3:W.cell? ⟨M+1,3,none⟩=some v1) (c4:W.cell? ⟨M+1,4,none⟩=some v2) (c5:W.cell? ⟨M+1,5,none⟩=some v3) (c6:W.cell? ⟨M+1,6,none⟩=some v4) (c7:W.cell? ⟨M+1,7,none⟩=some v5):
  jN W (λ_=>False) (aR #[v0,v1,v2,v3,v4,v5,aI s.pol.rel,aB aC s.pol.depth,aB aC s.pol.name,aB aC s.pol.value]) s.pol:=by
 have key: ∀j v,j<6->W.cell? ⟨M+1,2+j,none⟩=some v->Rx W (λ_=>False) v (fN s.pol j) (fS j) (fC s.pol j):=λj v hj hv=>by
  obtain⟨u,hu,ho⟩:=h.row j hj;rw[hv]at hu;cases hu;exact Rx.ofOwn ho (λ_ _ hx=>hx)
 exact⟨v0,v1,v2,v3,v4,v5,rfl,key 0 v0 om c2,key 1 v1 om c3,key 2 v2 om c4,key 3 v3 om c5,key 4 v4 om c6,key 5 v5 om c7⟩
theorem nF.pol {s:Ps} (h:nF s):GW s.pol:=by
 have h0:=h.rows 0;have h1:=h.rows 1;have h2:=h.rows 2;have h3:=h.rows 3;have h4:=h.rows 4;have h5:=h.rows 5;simp only[fN]at h0 h1 h2 h3 h4 h5;exact⟨by omega,by omega,by omega,by omega,by omega,by omega⟩
def Sz (R:Rs aO) (w:World) (e:Ending) (w':World):Prop:=Below w.heap.size w w'/\match R with
 | .ok p=> ∃v,e=aL (aN #[v,aB aC 0,aB aC 0])/\jN w' (λb=>b<w.heap.size) v p
 | .error f=>e=aL (aN #[DC,aB aC f.at_,aB aC f.code])
def yH (s:Bs) (w:World) (e:Ending) (w':World):Prop:=Sz (jS s) w e w'
theorem jN.turned {W W':World} {bad:Nat->Prop} {v:Value} {p:aO} (h:jN W bad v p) (ht:aJ bad W W'):jN W' bad v p:=by
 obtain⟨v0,v1,v2,v3,v4,v5,rfl,h0,h1,h2,h3,h4,h5⟩:=h;exact⟨v0,v1,v2,v3,v4,v5,rfl,h0.turned ht,h1.turned ht,h2.turned ht,h3.turned ht,h4.turned ht,h5.turned ht⟩
theorem VU {S A K:Nat} {s:ByteArray} {f:lC} {tmps:Array Value} {w W:World} {u0 u1 u2 u3 u4 u5 u6 u7 u8 u9:Value} {a0 k0:Int} {R:Ending->World->Prop} (hA:S+1+1=A) (hK:S+1+1+1=K) (h2:tmps.getD 2 undef=aM (some ⟨S+1,0,none⟩)) (h3:tmps.getD 3 undef=aM (some ⟨A,0,none⟩)) (h4:tmps.getD 4 undef=aM (some ⟨K,0,none⟩))
  (hs:W.cell? ⟨S,0,none⟩=some (.string s)) (ho:mK W (S+1) u0 u1 u2 u3 u4 u5 u6 u7 u8 u9) (ha:W.cell? ⟨A,0,none⟩=some (aB aC a0)) (hk:W.cell? ⟨K,0,none⟩=some (aB aC k0)) (hfa:W.frozen? ⟨A,0,none⟩=false) (hfk:W.frozen? ⟨K,0,none⟩=false)
  (hb:Below S w W) (hR: ∀w',Below S w w'->R (aL (aN #[DC,aB aC f.at_,aB aC f.code])) w') {d:Deferred} (hd:d={target:= .fn (.func 27) #[aM (some ⟨S,0,none⟩),aM (some ⟨S+1,0,none⟩),aM (some ⟨A,0,none⟩),aM (some ⟨K,0,none⟩)],args:= #[]}):
  Leaves aE Tryz.f18 tmps R [d] (.panicking [{v:=zW f,recovered:=false}]) W:=by
 subst hd hA hK;refine leaves_cons (f:=27) (args:= #[aM (some ⟨S,0,none⟩),aM (some ⟨S+1,0,none⟩),aM (some ⟨S+2,0,none⟩),aM (some ⟨S+3,0,none⟩)]) (by simp) (by simp[go_sem]) ?_;refine(Qn S s f [] W a0 k0 hs ho ha hk hfa hfk).mono ?_;rintro e u' w' ⟨rfl,rfl,hz,hca,hck,ht⟩;have hb2:Below S w w':=hb.trans (ht.below (by have:=World.block_lt_of_cell? W _ hs;show S<=W.heap.size;exact Nat.le_of_lt this) (λk hk=>by omega));simp only[settle];exact⟨_,KY h2 h3 h4 hz hca hck,hR w' hb2⟩
theorem R8 {W V:World} {O:Nat} {pv:Nat->Prop} (h:aJ pv V W) (hO:pv O) (v0 v1 v2 v3 v4 v5 v6 v7 v8 v9:Value):aJ pv V ((((((((((W.setCell ⟨O,0,none⟩ v0).setCell ⟨O,1,none⟩ v1).setCell ⟨O,2,none⟩ v2).setCell ⟨O,3,none⟩ v3).setCell ⟨O,4,none⟩ v4).setCell ⟨O,5,none⟩ v5).setCell ⟨O,6,none⟩ v6).setCell ⟨O,7,none⟩ v7).setCell ⟨O,8,none⟩ v8).setCell ⟨O,9,none⟩ v9):=((((((((((h.setCell (p:=⟨O,0,none⟩) (.inr hO) v0).setCell (p:=⟨O,1,none⟩) (.inr hO) v1).setCell (p:=⟨O,2,none⟩) (.inr hO) v2).setCell (p:=⟨O,3,none⟩) (.inr hO) v3).setCell (p:=⟨O,4,none⟩) (.inr hO) v4).setCell (p:=⟨O,5,none⟩) (.inr hO) v5).setCell (p:=⟨O,6,none⟩) (.inr hO) v6).setCell (p:=⟨O,7,none⟩) (.inr hO) v7).setCell (p:=⟨O,8,none⟩) (.inr hO) v8).setCell (p:=⟨O,9,none⟩) (.inr hO) v9)
theorem Im {S A K:Nat} {tmps:Array Value} {W:World} {u0 u1 u2 u3 u4 u5 u6 u7 u8 u9:Value} {a0 k0:Int} {R:Ending->World->Prop} (h2:tmps.getD 2 undef=aM (some ⟨S+1,0,none⟩)) (h3:tmps.getD 3 undef=aM (some ⟨A,0,none⟩)) (h4:tmps.getD 4 undef=aM (some ⟨K,0,none⟩))
  (ho:mK W (S+1) u0 u1 u2 u3 u4 u5 u6 u7 u8 u9) (hak:W.cell? ⟨A,0,none⟩=some (aB aC a0)/\W.cell? ⟨K,0,none⟩=some (aB aC k0)) (hR:R (aL (aN #[aR #[u0,u1,u2,u3,u4,u5,u6,u7,u8,u9],aB aC a0,aB aC k0])) W)
  {d:Deferred} (hd:d={target:= .fn (.func 27) #[aM (some ⟨S,0,none⟩),aM (some ⟨S+1,0,none⟩),aM (some ⟨A,0,none⟩),aM (some ⟨K,0,none⟩)],args:= #[]}):
  Leaves aE Tryz.f18 tmps R [d] .returning W:=by
 subst hd;refine leaves_cons (f:=27) (args:= #[aM (some ⟨S,0,none⟩),aM (some ⟨S+1,0,none⟩),aM (some ⟨A,0,none⟩),aM (some ⟨K,0,none⟩)]) (by simp) (by simp[go_sem]) ?_;refine(Qm _ _ _ _ W).mono ?_;rintro e u' w' ⟨rfl,rfl,rfl⟩;simp only[settle,Leaves];exact⟨_,KY h2 h3 h4 ho hak.1 hak.2,hR⟩
theorem Nh {W:World} {A K:Nat} {x y a k:Value} (h:A≠K) (ca:W.cell? ⟨A,0,none⟩=some x) (ck:W.cell? ⟨K,0,none⟩=some y):((W.setCell ⟨A,0,none⟩ a).setCell ⟨K,0,none⟩ k).cell? ⟨A,0,none⟩=some a/\((W.setCell ⟨A,0,none⟩ a).setCell ⟨K,0,none⟩ k).cell? ⟨K,0,none⟩=some k:=NL h ca ck
theorem Dx (s:ByteArray) (l:List Lx) (w:World) (hs:s.size<=8192) (hl:xF 0 s.data.toList= .ok l):Calls aE 18 #[.string s] w (yH s.data.toList w):=by
 have hmf: ∀(fn:Fn) (first cap:Array Value) (w:World),(Instr.makeFunc fn first cap).run aE w= .ok (.func fn first cap) w:=λ_ _ _ _=>rfl;have hmm:= @run_makeMap aE;have hsz:s.data.toList.length=s.size:=by simp
 obtain⟨hsm,hok⟩:=RO hl om;have HPar0:Hid (jS s.data.toList=match oM s.size ⟨l,pV,[]⟩with
   | .error e=> .error e
   | .ok t=>if oA (eD t.pol)then .ok (eD t.pol)else .error ⟨s.size,3⟩):=by
  show _=_;unfold jS;rw[if_neg om,hl,hsz];rfl
 rw[hsz]at hok;have HSm:=aA hsm;have HOk:=aA hok;have HSc:=aA (λW=>show Calls aE 26 #[.string s] W (λe w'=> ∃A c,e=aL (aN #[aF A l.length c,aB aC 0,aB aC 0])/\Below W.heap.size W w'/\l.length<=c/\w'.ownsRow W.heap.size 92 3 (aF A l.length c) l.length (kG l))from(SI s W hs).mono λe w' h=>by
  rw[hl]at h;obtain⟨v,hb,he,ho⟩:=h;obtain⟨A,c,rfl,hc⟩:=dF ho;exact⟨A,c,he,hb,hc,ho⟩)
 unfold yH;obtain⟨R,hR⟩: ∃R,jS s.data.toList=R:=⟨_,rfl⟩;rw[hR]at HPar0 ⊢;clear hR hl hsz hsm hok;go_enter_defers Tryz.func18,Tryz.ntmps18
 go_upto_region 1 with fail
 refine dL λW0 hW0=> ?_;obtain⟨S,hS⟩: ∃S,w.heap.size=S:=⟨_,rfl⟩;obtain⟨K,hK⟩: ∃K,S+1+1+1=K:=⟨_,rfl⟩;obtain⟨A,hA⟩: ∃A,S+1+1=A:=⟨_,rfl⟩;have st:=RP hW0 hS hA hK;rw[hS,hK,hA];obtain⟨hl0,hb0,cs,hO,ca,ck,fa,fk⟩:=st;clear hW0;have HO:=aA hO;have HB0:=aA hb0;clear hO hb0;have hAK: ¬A=K:=by omega
 have hKA: ¬K=A:=by omega
 have hOA: ¬S+1=A:=by omega
 have hOK: ¬S+1=K:=by omega
 have hAO: ¬A=S+1:=by omega
 have hKO: ¬K=S+1:=by omega
 have hlA:A<W0.heap.size:=by omega
 have hlK:K<W0.heap.size:=by omega
 have hlO:S+1<W0.heap.size:=by omega
 have hlS:S<W0.heap.size:=by omega
 have hSA: ¬S=A:=by omega
 have hSK: ¬S=K:=by omega
 go_upto_region 2 with(go_at_call 26;(with_reducible refine(HSc.out _).mono ?_);rintro e W1 ⟨Al,cl,rfl,hb1,hcl,hol⟩;have HB1:=aA hb1;have HOl:=aA hol;have cs1:=(hb1.cell (p:=⟨S,0,none⟩) hlS).trans cs;have ca1:=(hb1.cell (p:=⟨A,0,none⟩) hlA).trans ca;have ck1:=(hb1.cell (p:=⟨K,0,none⟩) hlK).trans ck;have fa1:=(hb1.frozen (p:=⟨A,0,none⟩) hlA).trans fa;have fk1:=(hb1.frozen (p:=⟨K,0,none⟩) hlK).trans fk;clear hb1 hol)
 refine dL λW2 hW2=> ?_;have hO2:yI W2 (S+1):=by
  rw[hW2];exact((HO.out.below hlO HB1.out).oth hAO _).oth hKO _
 have hT2:aJ (λb=>b=A\/b=K) W1 W2:=by rw[hW2];exact iX
 have hb2:Below S w W2:=(HB0.out.trans (HB1.out.mono om)).trans (hT2.below (by have:=HB1.out.size;omega) (λk hk=>by omega));have cs2:W2.cell? ⟨S,0,none⟩=some (.string s):=by rw[hW2];simp[go_sem,cs1]
 have ca2:W2.cell? ⟨A,0,none⟩=some (aB aC 0):=by rw[hW2];simp[go_sem,ca1]
 have ck2:W2.cell? ⟨K,0,none⟩=some (aB aC 0):=by rw[hW2];simp[go_sem,ck1]
 have fa2:W2.frozen? ⟨A,0,none⟩=false:=by rw[hW2];simp[go_sem,fa1]
 have fk2:W2.frozen? ⟨K,0,none⟩=false:=by rw[hW2];simp[go_sem,fk1]
 have HOl2:=aA (hT2.own HOl.out (λk hk=>by omega));have hl2:S+4<=W2.heap.size:=bG (bG hl0 HB1.out.size) hT2.size;have HO2:=aA hO2;have HB2:=aA hb2;clear hW2 hT2 hb2 hO2 cs ca ck fa fk cs1 ca1 ck1 fa1 fk1 HO HB0 HB1 HOl hlA hlK hlO hlS;obtain⟨M,hM⟩: ∃M,W2.heap.size=M:=⟨_,rfl⟩;go_upto_region 6 with fail
 refine dL λV hV=> ?_;have hPS:=cW.start (en:=s.size) (V:=V) rfl HOl2.out hcl (by rw[hM];exact hV);have hbV:Below W2.heap.size W2 V:=by rw[hV];exact aG
 clear hV HOl2;rw[hM]at hPS hbV;have HPS:=aA hPS;have HBV:=aA hbV;clear hPS hbV;go_loopw [26] (λ_ wr=> ∃t:Ps,Hid (cW s.size M t wr)/\Hid (nF t)/\Hid (gP s.size t.rest/\tT t.pol)/\Hid (oM s.size ⟨l,pV,[]⟩=oM s.size t)/\Hid (Below M W2 wr)) (λ_ wr=>vU M wr)
 case atStart=>exact⟨⟨l,pV,[]⟩,HPS.out,HSm.out,⟨HOk.out,LC⟩,rfl,HBV.out⟩
 case round=>
  clear HPS HSm HOk HBV;obtain⟨t,HP,HSm,HOk,HK,HB⟩:=hrel;have hcs:=(HB.out.cell (p:=⟨S,0,none⟩) (by show S<M;omega)).trans cs2;have hca:=(HB.out.cell (p:=⟨A,0,none⟩) (by show A<M;omega)).trans ca2;have hck:=(HB.out.cell (p:=⟨K,0,none⟩) (by show K<M;omega)).trans ck2;have hfa:=(HB.out.frozen (p:=⟨A,0,none⟩) (by show A<M;omega)).trans fa2;have hfk:=(HB.out.frozen (p:=⟨K,0,none⟩) (by show K<M;omega)).trans fk2;have HOr:=aA (HO2.out.below om HB.out);have HBr:=aA (HB2.out.trans (HB.out.mono om));clear cs2 ca2 ck2 fa2 fk2 HO2 HB2;obtain⟨Ar,cr,hcr,_⟩:=HP.out.r.rest;cases hr:t.rest with
  |cons x q=>
   have HRn:Hid (t.rest=x::q):=hr;rw[hr,aY]at hcr;have HS0:=T4 s.size M t wr HP.out HSm.out (λy hy h2=>(HOk.out.1 y hy).num h2);have HE:Hid (oM s.size t=match eZ s.size t with
    | .error e=> .error e
    | .ok t=>oM s.size t):=Aj (by rw[hr];simp)
   have HS:=aA HS0;clear hr HS0;cases h3:eZ s.size t with
   |error f=>
    rw[h3]at HS HE;have HR:Hid (R= .error f):=by show _=_;rw[HPar0.out,HK.out,HE.out]
    have HS2:=aA (show Calls aE 28 #[aM (some ⟨M+1,0,none⟩)] wr (tU M wr f)from HS.out);clear HPar0 HK HE h3 HS;go_wp2_with(go_at_call 28;(with_reducible refine HS2.out.mono ?_);rintro e W4 ⟨rfl,hb4⟩;have HB4:=aA hb4;clear hb4)
    simp only[bodyPostD];refine VU hA hK rfl rfl rfl ((HB4.out.cell (p:=⟨S,0,none⟩) (by show S<M;omega)).trans hcs) (HOr.out.below om HB4.out) ((HB4.out.cell (p:=⟨A,0,none⟩) (by show A<M;omega)).trans hca) ((HB4.out.cell (p:=⟨K,0,none⟩) (by show K<M;omega)).trans hck) ((HB4.out.frozen (p:=⟨A,0,none⟩) (by show A<M;omega)).trans hfa) ((HB4.out.frozen (p:=⟨K,0,none⟩) (by show K<M;omega)).trans hfk) (HBr.out.trans (HB4.out.mono om)) (λw' hb=> ?_) rfl;rw[HR.out];exact⟨by rw[hS];exact hb,rfl⟩
   |ok t2=>
    rw[h3]at HS HE;have HS2:=aA (show Calls aE 28 #[aM (some ⟨M+1,0,none⟩)] wr (λe w'=>e=aL (aN #[])/\cW s.size M t2 w'/\Below M wr w')from HS.out);have HK2:Hid (oM s.size ⟨l,pV,[]⟩=oM s.size t2):=by show _=_;rw[HK.out,HE.out]
    have HSm2:=aA (HSm.out.stmt h3);have HOk2:=aA (KD h3 HOk.out.2 HOk.out.1);have hlt2:=KE h3;have HLt:=aA hlt2;clear HPar0 HK HE h3 HS HSm HOk hlt2;go_wp2_with(go_at_call 28;(with_reducible refine HS2.out.mono ?_);rintro e W4 ⟨rfl,hp4,hb4⟩;have HP4:=aA hp4;have HB4:=aA hb4;clear hp4 hb4)
    go_roundw
    case rel=>exact⟨t2,HP4.out,HSm2.out,⟨HOk2.out.2,HOk2.out.1⟩,HK2.out,HB.out.trans HB4.out⟩
    case measure=>
     have h1:=HP4.out.r.len;have h2:=HP.out.r.len;have h3:=HLt.out;show vU M W4<vU M wr;omega
  |nil=>
   rw[hr,dY]at hcr;have HE:Hid (oM s.size t= .ok t):=Ai hr;have HR:Hid (R=if oA (eD t.pol)then .ok (eD t.pol)else .error ⟨s.size,3⟩):=by show _=_;rw[HPar0.out,HK.out,HE.out]
   clear HPar0 HK HE hr HOk;obtain⟨v0,v1,v2,v3,v4,v5,c2,c3,c4,c5,c6,c7,⟨A0,n0,k0,rfl⟩,⟨A1,n1,k1,rfl⟩,⟨A2,n2,k2,rfl⟩,⟨A3,n3,k3,rfl⟩,⟨A4,n4,k4,rfl⟩,⟨A5,n5,k5,rfl⟩⟩:=HP.out.cells;have hpv:=HP.out.polV c2 c3 c4 c5 c6 c7;have c8:=HP.out.c8;have c9:=HP.out.c9;have c10:=HP.out.c10;have c11:=HP.out.c11;have hlM:=HP.out.r.lt;have HNe:=aA (Fy _ t.pol wr hpv HSm.out.pol);generalize eD t.pol=P at*;clear hpv HSm;have hlS:=World.block_lt_of_cell? wr _ hcs;have hlA:=World.block_lt_of_cell? wr _ hca;have hlK:=World.block_lt_of_cell? wr _ hck;have hlO:=World.block_lt_of_cell? wr _ HOr.out.c0;clear HB hl0 hl2;go_upto_region 9 with(go_at_call 29;(with_reducible refine HNe.out.mono ?_);rintro e W5 ⟨v',rfl,hb5,hp5⟩;have HP5:=aA hp5;obtain⟨w0,w1,w2,w3,w4,w5,rfl,⟨B0,l0,rfl,_⟩,⟨B1,l1,rfl,_⟩,⟨B2,l2,rfl,_⟩,⟨B3,l3,rfl,_⟩,⟨B4,l4,rfl,_⟩,⟨B5,l5,rfl,_⟩⟩:=hp5;have HB5:=aA hb5;obtain⟨z0,z1,z2,z3,z4,z5,z6,z7,z8,z9,zf⟩:=(HOr.out.below hlO hb5);have y0:=zf 0;have y1:=zf 1;have y2:=zf 2;have y3:=zf 3;have y4:=zf 4;have y5:=zf 5;have y6:=zf 6;have y7:=zf 7;have y8:=zf 8;have y9:=zf 9;have HZf:=aA zf;clear hb5 zf)
   refine dL λW6 hW6=> ?_;have hz5:yI W5 (S+1):=⟨z0,z1,z2,z3,z4,z5,z6,z7,z8,z9,HZf.out⟩;have hO6:=hz5.store (aF B0 (fN P 0) l0) (aF B1 (fN P 1) l1) (aF B2 (fN P 2) l2) (aF B3 (fN P 3) l3) (aF B4 (fN P 4) l4) (aF B5 (fN P 5) l5) (aI P.rel) (aB aC P.depth) (aB aC P.name) (aB aC P.value);rw[<-hW6]at hO6;have hT6:aJ (λb=>b<=K) W5 W6:=by
    have h9:aJ (λb=>b=S+1) W5 W6:=by rw[hW6];exact iX
    exact h9.mono λb hb=>by omega
   have hT9:aJ (λb=>b=S+1) W5 W6:=by rw[hW6];exact iX
   have hS5:=HB5.out.size;have hcs6:=(World.cell?_of_block (a:=⟨S,0,none⟩) (hT9.block S om om)).trans ((HB5.out.cell (p:=⟨S,0,none⟩) hlS).trans hcs);have hca6:=(World.cell?_of_block (a:=⟨A,0,none⟩) (hT9.block A om om)).trans ((HB5.out.cell (p:=⟨A,0,none⟩) hlA).trans hca);have hck6:=(World.cell?_of_block (a:=⟨K,0,none⟩) (hT9.block K om om)).trans ((HB5.out.cell (p:=⟨K,0,none⟩) hlK).trans hck);have hfa6:=(World.frozen?_of_block (a:=⟨A,0,none⟩) (hT9.block A om om)).trans ((HB5.out.frozen (p:=⟨A,0,none⟩) hlA).trans hfa);have hfk6:=(World.frozen?_of_block (a:=⟨K,0,none⟩) (hT9.block K om om)).trans ((HB5.out.frozen (p:=⟨K,0,none⟩) hlK).trans hfk);have hp6:=(HP5.out.mono (bad':=λb=>b<=K) (λb _ hb=>by show b<wr.heap.size;have h9:K<wr.heap.size:=hlK;omega)).turned hT6;have hb6:Below S w W6:=(HBr.out.trans (HB5.out.mono om)).trans (hT9.below om (λk hk=>by omega));have HB6:=aA hb6;have HP6:=aA hp6;have HO6:=aA hO6;have HFi:=aA (XP _ _ P W6 hp6);have hK6:K<W6.heap.size:=World.block_lt_of_cell? W6 _ hck6;obtain⟨o0,o1,o2,o3,o4,o5,o6,o7,o8,o9,of⟩:=hO6;clear hW6 hz5 hT6 hT9 hb6 hp6 z0 z1 z2 z3 z4 z5 z6 z7 z8 z9 y0 y1 y2 y3 y4 y5 y6 y7 y8 y9 HZf HP5 HB5 HOr HBr hcs hca hck hfa hfk c2 c3 c4 c5 c6 c7 c8 c9 c10 c11 HNe hcr hlS hlA hlK hlO hlM of;cases hf:oA P with
   |false=>
    rw[hf]at HFi HR;have HR:Hid (R= .error ⟨s.size,3⟩):=HR.out;clear hf;go_wp2_with(go_at_call 30;(with_reducible refine HFi.out.mono ?_);rintro e W7 ⟨rfl,X7,rfl⟩)
    simp only[bodyPostD];have hb7:Below W6.heap.size W6 (W6.grow X7):=aG;refine VU (f:=⟨s.size,3⟩) hA hK rfl rfl rfl ((hb7.cell (p:=⟨S,0,none⟩) (by show S<_;omega)).trans hcs6) (HO6.out.below om hb7) ((hb7.cell (p:=⟨A,0,none⟩) (by show A<_;omega)).trans hca6) ((hb7.cell (p:=⟨K,0,none⟩) hK6).trans hck6) ((hb7.frozen (p:=⟨A,0,none⟩) (by show A<_;omega)).trans hfa6) ((hb7.frozen (p:=⟨K,0,none⟩) hK6).trans hfk6) (HB6.out.trans (hb7.mono om)) (λw' hb=> ?_) rfl;rw[HR.out];exact⟨by rw[hS];exact hb,rfl⟩
   |true=>
    rw[hf]at HFi HR;have HR:Hid (R= .ok P):=HR.out;clear hf;go_upto_region 11 with(go_at_call 30;(with_reducible refine HFi.out.mono ?_);rintro e W7 ⟨rfl,X7,rfl⟩)
    refine dL λW7 hW7=> ?_;have hb7:Below W6.heap.size W6 W7:=by rw[hW7];exact aG
    have hca7:=(hb7.cell (p:=⟨A,0,none⟩) (by show A<_;omega)).trans hca6;have hck7:=(hb7.cell (p:=⟨K,0,none⟩) hK6).trans hck6;have hfa7:=(hb7.frozen (p:=⟨A,0,none⟩) (by show A<_;omega)).trans hfa6;have hfk7:=(hb7.frozen (p:=⟨K,0,none⟩) hK6).trans hfk6;have HO7:=aA (HO6.out.below om hb7);have HP7:=aA (HP6.out.below hb7);have HB7:=aA (HB6.out.trans (hb7.mono om));have hl7:=hb7.size;clear hW7 hb7 hca6 hck6 hfa6 hfk6 hcs6 HO6 HP6 HB6 o0 o1 o2 o3 o4 o5 o6 o7 o8 o9;obtain⟨o0,o1,o2,o3,o4,o5,o6,o7,o8,o9,of⟩:=HO7.out;have y0:=of 0;have y1:=of 1;have y2:=of 2;have y3:=of 3;have y4:=of 4;have y5:=of 5;have y6:=of 6;have y7:=of 7;have y8:=of 8;have y9:=of 9;clear of;go_wp2_with fail
    simp only[bodyPostD];refine Im rfl rfl rfl (((HO7.out.store _ _ _ _ _ _ _ _ _ _).oth hAO _).oth hKO _) (Nh hAK ((yW hAO _ _ _ _ _ _ _ _ _ _).trans hca7) ((yW hKO _ _ _ _ _ _ _ _ _ _).trans hck7)) ?_ rfl;rw[HR.out];have hA2:S<=A:=by omega
    have hK2:S<=K:=by omega
    have ht:=((R8 (pv:=λb=>b<=K) (O:=S+1) (aJ.refl _ W7) (by show S+1<=K;omega) (aF B0 (fN P 0) l0) (aF B1 (fN P 1) l1) (aF B2 (fN P 2) l2) (aF B3 (fN P 3) l3) (aF B4 (fN P 4) l4) (aF B5 (fN P 5) l5) (aI P.rel) (aB aC P.depth) (aB aC P.name) (aB aC P.value)).setCell (p:=⟨A,0,none⟩) (.inr (by show A<=K;omega)) (aB aC 0)).setCell (p:=⟨K,0,none⟩) (.inr (bA K)) (aB aC 0);refine⟨by rw[hS];exact((RH (Nat.le_succ S) HB7.out _ _ _ _ _ _ _ _ _ _).setCell (p:=⟨A,0,none⟩) hA2 _).setCell (p:=⟨K,0,none⟩) hK2 _,_,rfl, ?_⟩;exact(HP7.out.turned ht).mono λb _ hb=>by show b<=K;omega
theorem UC (s:Bs) (w:World):Calls aE 18 #[Value.string ⟨s.toArray⟩] w (yH s w):=by
 by_cases h8:8192<s.length
 .have hp:jS s= .error ⟨0,3⟩:=by unfold jS;rw[if_pos h8]
  unfold yH;rw[hp];refine(UA ⟨s.toArray⟩ w 0 3 dc (λW=> ?_)).mono λe w' h=>⟨h.2,h.1⟩;exact(q8 ⟨s.toArray⟩ W (by show 8192<s.toArray.size;simpa using h8)).mono λe w' ⟨h1,X,h2⟩=>⟨h1,by subst h2;exact aG⟩
 .have h9:(⟨s.toArray⟩:ByteArray).size<=8192:=by show s.toArray.size<=_;simp;omega
  cases hl:xF 0 s with
  |bad n=>
   have hp:jS s= .error ⟨n,2⟩:=by unfold jS;rw[if_neg h8,hl]
   unfold yH;rw[hp];refine(UA ⟨s.toArray⟩ w n 2 dc (λW=> ?_)).mono λe w' h=>⟨h.2,h.1⟩;refine(SI ⟨s.toArray⟩ W h9).mono λe w' h=> ?_;rw[show xF 0 (⟨s.toArray⟩:ByteArray).data.toList= .bad n from hl]at h;obtain⟨v,hb,he⟩:=h;exact⟨he,hb⟩
  |ok l=>exact Dx ⟨s.toArray⟩ l w h9 hl
