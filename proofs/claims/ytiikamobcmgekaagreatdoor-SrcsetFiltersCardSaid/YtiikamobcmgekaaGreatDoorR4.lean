/- The walks of the parser: Parse. -/
import Derived.Defers
import Derived.Recover
import Derived.Carry
import Derived.BigRegion
import Derived.Test.YtiikamobcmgekaaGreatDoorParI
import Derived.Test.YtiikamobcmgekaaGreatDoorWN
namespace Go.Proofs.YtiikamobcmgekaaGreatDoor
open Lib renaming hid→z2c
open List renaming length_cons→z2i,length_nil→z28,mem_cons_of_mem→z4e
open Nat renaming le_trans→z2j
open Tryz renaming prog→z2f
set_option maxRecDepth 100000
set_option maxHeartbeats 1000000
theorem zs2 {en:Nat} {l q:List Lx} {ws:List Bs} (h:zbm en l= .ok (ws,q)): ∀x∈q,x∈l:=by
 unfold zbm at h;split at h
 ·cases h
 ·next x r ht=>
  obtain⟨rfl,_⟩:=za1 ht;split at h
  ·cases h
  ·next us q2 hm=>
   cases h;unfold zh5 at hm;split at hm
   ·cases hm
   ·next y q3 ht2=>
    cases hm;obtain⟨h3,_⟩:=za1 ht2;intro z hz;exact z4e _ ((List.dropWhile_suffix _).subset (by rw[h3];exact z4e _ hz))
theorem zxk {en a:Nat} {what:Bs} {l q:List Lx} {told told':List Bs} (h:zdj en a what l told= .ok (q,told')): ∀x∈q,x∈l:=by
 unfold zdj at h;split at h
 ·cases h
 ·next x r ht=>
  obtain⟨rfl,_⟩:=za1 ht;split at h
  ·cases h
  ·cases h;exact fun x hx=>z4e _ hx
structure Shr (s t:Ps):Prop where
 mem: ∀x∈t.rest,x∈s.rest
 len:t.rest.length<=s.rest.length
 told:t.told.length+t.rest.length<=s.told.length+s.rest.length
 rows: ∀j,fN t.pol j+t.rest.length<=fN s.pol j+s.rest.length
theorem Shr.cons {s t:Ps} {x:Lx} {q:List Lx} (h:Shr ⟨q,s.pol,s.told⟩ t) (hx:s.rest=x::q):Shr s t:=by
 refine⟨fun y hy=>by rw[hx];exact z4e _ (h.mem y hy), ?_, ?_,fun j=> ?_⟩
 ·have:=h.len;rw[hx,z2i];simp only at this;omega
 ·have:=h.told;rw[hx,z2i];simp only at this;omega
 ·have:=h.rows j;rw[hx,z2i];simp only at this;omega
theorem z0v (p:Pol) (tag:Bs) (ws:List Bs) (j:Nat):fN (addA p tag ws) j<=fN p j+ws.length:=by
 rcases j with _|_|_|_|_|j<;>simp[fN,addA]
theorem z0r (k:Nat) (p:Pol) (ws:List Bs) (j:Nat):fN (addL k p ws) j<=fN p j+ws.length:=by
 rcases k with _|_|_|k<;>rcases j with _|_|_|_|_|j<;>simp[fN,addL]
theorem znl {en:Nat} {s:Ps} {ws:List Bs} {q:List Lx} {p:Pol} (h:zbm en s.rest= .ok (ws,q)) (hp: ∀j,fN p j<=fN s.pol j+ws.length):Shr s ⟨q,p,s.told⟩:=by
 obtain⟨h1,h2⟩:=zea h;refine⟨zs2 h,by simp only;omega,by simp only;omega,fun j=> ?_⟩;have:=hp j;simp only;omega
theorem Shr.trans {s t u:Ps} (h:Shr s t) (k:Shr t u):Shr s u:=
 ⟨fun x hx=>h.mem x (k.mem x hx),z2j k.len h.len,z2j k.told h.told,fun j=>z2j (k.rows j) (h.rows j)⟩
theorem zd6 {s:Ps} {x:Lx} {q:List Lx} (h:s.rest=x::q):Shr s ⟨q,s.pol,s.told⟩:=by
 refine⟨fun y hy=>by rw[h];exact z4e _ hy, ?_, ?_,fun j=> ?_⟩<;>(rw[h,z2i];simp only;omega)
theorem zm0 {en a:Nat} {what:Bs} {s:Ps} {q:List Lx} {told:List Bs} {p:Pol} (h:zdj en a what s.rest s.told= .ok (q,told)) (hp: ∀j,fN p j<=fN s.pol j+1):Shr s ⟨q,p,told⟩:=by
 obtain⟨h1,_,rfl⟩:=zhh h;refine⟨zxk h,by simp only;omega,by simp only[z2i];omega,fun j=> ?_⟩;have:=hp j;simp only;omega
theorem z1j {en k a:Nat} {s t:Ps} (h:sub en k a s= .ok t):Shr s t:=by
 unfold sub at h;split at h
 ·unfold zf8 at h;split at h
  ·split at h
   ·cases h
   ·next y r hq=>
    split at h
    ·cases h
    ·next z q2 h2=>
     obtain⟨h3,_⟩:=za1 h2;split at h
     ·cases h
     ·next ws q3 hw=>
      cases h;have a1:=zd6 hq;have a2:=zd6 (s:=⟨r,s.pol,s.told⟩) h3;exact a1.trans (a2.trans (znl (s:=⟨q2,s.pol,s.told⟩) hw (z0v s.pol y.text ws)))
  ·cases h
 ·unfold relP at h;split at h
  ·cases h
  ·next x q h2=>
   obtain⟨h3,_⟩:=za1 h2;split at h
   ·cases h
   ·next ho=>cases h;exact(zd6 h3).trans (zm0 (s:=⟨q,s.pol,s.told⟩) ho (fun j=>by rcases j with _|_|_|_|_|j<;>simp[fN]))
 ·unfold zes at h;split at h
  ·cases h
  ·next x q h2=>
   obtain⟨h3,_⟩:=za1 h2;split at h
   ·cases h
   ·next y q2 h4=>
    obtain⟨h5,_⟩:=za1 h4;split at h
    ·cases h
    ·next z q3 h6=>
     obtain⟨h7,_⟩:=za1 h6;split at h
     ·cases h
     ·next ho=>
      cases h;exact(zd6 h3).trans ((zd6 (s:=⟨q,s.pol,s.told⟩) h5).trans ((zd6 (s:=⟨q2,s.pol,s.told⟩) h7).trans (zm0 (s:=⟨q3,s.pol,s.told⟩) ho (fun j=>by rcases j with _|_|_|_|_|j<;>simp[fN]))))
 ·unfold zeq at h;split at h
  ·cases h
  ·next x q h2=>
   obtain⟨h3,_⟩:=za1 h2;split at h
   ·cases h
   ·next y q2 h4=>
    obtain⟨h5,_⟩:=za1 h4;split at h
    ·cases h
    ·next ho=>
     split at h
     ·cases h;exact(zd6 h3).trans ((zd6 (s:=⟨q,s.pol,s.told⟩) h5).trans (zm0 (s:=⟨q2,s.pol,s.told⟩) ho (fun j=>by unfold setL;split<;>(try split)<;>(rcases j with _|_|_|_|_|j<;>simp[fN]))))
     ·cases h
 ·split at h
  ·cases h
  ·next ws q hw=>cases h;exact znl hw (z0r _ s.pol ws)
theorem zr4 {en:Nat} {s t:Ps} (h:zbf en s= .ok t):Shr s t:=by
 cases h1:zb0 en 1 zb9 s.rest with
 |error f=>unfold zbf at h;rw[h1]at h;cases h
 |ok p=>
  obtain⟨x,q⟩:=p;obtain⟨h3,h4⟩:=za1 h1;have hx:x.text∈zb9:=(zey h4).2 (by decide);obtain⟨k,hk,he⟩:=List.getElem_of_mem hx;rw[zr3 h1 k hk he.symm]at h;exact(zd6 h3).trans (z1j h)
theorem PsSm.stmt {en:Nat} {s t:Ps} (hs:PsSm s) (h:zbf en s= .ok t):PsSm t:=by
 have g:=zr4 h;exact⟨z2j g.len hs.rest,fun x hx=>hs.txt x (g.mem x hx),z2j g.told hs.told,fun j=>z2j (g.rows j) (hs.rows j)⟩
theorem zml: ∀(m:Nat) (l t:Bs) (n:Nat),l.length<=m->strL l= .ok t n->t.length<=n
 |_,[],t,n,_,h=>by rw[strL.eq_def]at h;cases h
 |0,_::_,_,_,hm,_=>by simp at hm
 |m+1,c::r,t,n,hm,h=>by
  simp only[z2i]at hm;by_cases h34:c.toNat=34
  ·rw[ze3 r h34]at h;cases h;simp
  by_cases h92:c.toNat=92
  ·cases r with
   |nil=>rw[zdu h92]at h;cases h
   |cons d r=>
    by_cases hd:d.toNat=92\/d.toNat=34
    ·rw[zg5 r h92 hd]at h;cases hs:strL r with
     |ok t' n'=>
      rw[hs]at h;cases h;have ih:=zml m r t' n' (by simp only[z2i]at hm;omega) hs;simp only[List.length_append,z2i,z28];omega
     |bad n=>rw[hs]at h;cases h
     |op=>rw[hs]at h;cases h
    ·rw[zdv r h92 hd]at h;cases h
  by_cases ho:oddB c=true
  ·rw[zg4 r h34 h92 ho]at h;cases h
  ·rw[ze4 r h34 h92 ho]at h;cases hs:strL r with
   |ok t' n'=>
    rw[hs]at h;cases h;have ih:=zml m r t' n' (by omega) hs;simp only[List.length_append,z2i,z28];omega
   |bad n=>rw[hs]at h;cases h
   |op=>rw[hs]at h;cases h
theorem zxb {l t:Bs} {k n:Nat} (h:zbj l= .ok k t n):t.length<=n:=by
 unfold zbj at h;split at h
 ·cases h
 ·next c r=>
  split at h
  ·split at h
   ·next t' n' hs=>
    simp only[PR.ok.injEq]at h;obtain⟨_,rfl,rfl⟩:=h;have:=zml _ r _ _ (Nat.le_refl _) hs;omega
   ·cases h
   ·cases h
  ·split at h
   ·split at h
    ·simp only[PR.ok.injEq]at h;obtain⟨_,rfl,rfl⟩:=h;simp only[z2i];omega
    ·cases h
   ·split at h
    ·split at h
     ·simp only[PR.ok.injEq]at h;obtain⟨_,rfl,rfl⟩:=h;simp only[z2i];omega
     ·cases h
    ·split at h
     ·simp only[PR.ok.injEq]at h;obtain⟨_,rfl,rfl⟩:=h;simp
     ·cases h
theorem zxc {l t:Bs} {k n:Nat} (h:zbj l= .ok k t n):1<=n:=by
 unfold zbj at h;split at h
 ·cases h
 ·next c r=>
  repeat' split at h
  all_goals first|(cases h;omega)|(cases h)|(simp only[PR.ok.injEq]at h;omega)
theorem zn6: ∀(f a:Nat) (l:Bs) (L:List Lx),zfx f a l= .ok L->L.length<=l.length/\ ∀x∈L,x.text.length<=l.length
 |0,_,_,L,h=>by
  simp only[zfx,SR.ok.injEq]at h;subst h;exact⟨by simp,fun _ hx=>(by cases hx)⟩
 |f+1,a,l,L,h=>by
  simp only[zfx]at h;split at h
  ·simp only[SR.ok.injEq]at h;subst h;exact⟨by simp,fun _ hx=>(by cases hx)⟩
  ·next c r hr=>
   have hlr:=congrArg List.length hr;rw[List.length_drop]at hlr;split at h
   ·next k t n hp=>
    obtain⟨M,h1,rfl⟩:=SR.cons_ok h;have hle:=(zc0 _).1 _ _ _ hp;have ht:=zxb hp;have hpos:=zxc hp;have ih:=zn6 f _ _ M h1;rw[List.length_drop]at ih;refine⟨by rw[z2i];have:=ih.1;omega,fun x hx=> ?_⟩;rcases List.mem_cons.1 hx with rfl|hx
    ·simp only;omega
    ·have:=ih.2 x hx;omega
   ·cases h
theorem zmn {s:Bs} {l:List Lx} (h:zd2 0 s= .ok l) (hs:s.length<=8192):PsSm ⟨l,pol0,[]⟩/\zdb s.length l:=by
 have h1:=zn6 _ _ _ _ h;have h2:=zix _ 0 s.length _ _ (by omega) h;refine⟨⟨by simp only;omega,fun x hx=>⟨by have:=h1.2 x hx;omega,by have:=(h2 x hx).at_;omega⟩,by simp only[z28];omega,fun j=> ?_⟩,h2⟩;rcases j with _|_|_|_|_|j<;>(simp only[fN,pol0,z28];omega)
open Go.RowKit
attribute [local go_sem] Oper.semAt_some
structure OutC (W:World) (O:Nat) (u0 u1 u2 u3 u4 u5 u6 u7 u8 u9:Value):Prop where
 c0:W.cell? ⟨O,0,none⟩=some u0
 c1:W.cell? ⟨O,1,none⟩=some u1
 c2:W.cell? ⟨O,2,none⟩=some u2
 c3:W.cell? ⟨O,3,none⟩=some u3
 c4:W.cell? ⟨O,4,none⟩=some u4
 c5:W.cell? ⟨O,5,none⟩=some u5
 c6:W.cell? ⟨O,6,none⟩=some u6
 c7:W.cell? ⟨O,7,none⟩=some u7
 c8:W.cell? ⟨O,8,none⟩=some u8
 c9:W.cell? ⟨O,9,none⟩=some u9
 fz: ∀j,W.frozen? ⟨O,j,none⟩=false
abbrev OutZ (W:World) (O:Nat):Prop:=OutC W O (.slice none 0 0) (.slice none 0 0) (.slice none 0 0) (.slice none 0 0) (.slice none 0 0) (.slice none 0 0) (.bool false) (.int .i64 0) (.int .i64 0) (.int .i64 0)
theorem zuz (p0 p1 p2 p3:Addr) (w:World):
  CallsD z2f 47 #[.pointer (some p0),.pointer (some p1),.pointer (some p2),.pointer (some p3)] .returning w fun e u' w'=>e= .returned (.tuple #[])/\u'= .returning/\w'=w:=by
 refine callsD_of_wpS Tryz.func47 rfl fun c₀ cs hu=> ?_;simp only[Tryz.ntmps47,List.size_toArray,z2i,z28,Nat.reduceAdd,Nat.reduceSub,Array.replicate_succ,Array.replicate_zero,List.push_toArray,List.append_toArray,List.nil_append,List.cons_append];apply wpS_seq;apply wpS_region;simp[wpOpsS,go_sem,recoverD,hu];refine wpS_of_wp ?_;go_wp2
 cases c₀;simp_all [bodyPostS,results,Tryz.results47]
theorem zym (S:Nat) (s:ByteArray) (f:Flt) (older:List PanicEntry) (w:World) {u0 u1 u2 u3 u4 u5 u6 u7 u8 u9:Value} (a0 k0:Int) (hs:w.cell? ⟨S,0,none⟩=some (.string s)) (ho:OutC w (S+1) u0 u1 u2 u3 u4 u5 u6 u7 u8 u9)
  (ha:w.cell? ⟨S+2,0,none⟩=some (.int .i64 a0)) (hk:w.cell? ⟨S+3,0,none⟩=some (.int .i64 k0)) (hfa:w.frozen? ⟨S+2,0,none⟩=false) (hfk:w.frozen? ⟨S+3,0,none⟩=false):
  CallsD z2f 47 #[.pointer (some ⟨S,0,none⟩),.pointer (some ⟨S+1,0,none⟩),.pointer (some ⟨S+2,0,none⟩),.pointer (some ⟨S+3,0,none⟩)] (.panicking ({v:=fltV f,recovered:=false}::older)) w fun e u' w'=>
   e= .returned (.tuple #[])/\u'= .panicking ({v:=fltV f,recovered:=true}::older)/\OutZ w' (S+1)/\w'.cell? ⟨S+2,0,none⟩=some (.int .i64 f.at_)/\w'.cell? ⟨S+3,0,none⟩=some (.int .i64 f.code)/\zab (fun b=>b=S+1\/b=S+2\/b=S+3) w w':=by
 obtain⟨c0,c1,c2,c3,c4,c5,c6,c7,c8,c9,fz⟩:=ho;have f0:=fz 0;have f1:=fz 1;have f2:=fz 2;have f3:=fz 3;have f4:=fz 4;have f5:=fz 5;have f6:=fz 6;have f7:=fz 7;have f8:=fz 8;have f9:=fz 9;have hb0:=World.block_lt_of_cell? w _ hs;have hb1:=World.block_lt_of_cell? w _ c0;have hb2:=World.block_lt_of_cell? w _ ha;have hb3:=World.block_lt_of_cell? w _ hk;refine callsD_of_wpS Tryz.func47 rfl fun c₀ cs hu=> ?_;unfold fltV at hu ⊢;generalize(f.at_:Int)=fa at*;generalize(f.code:Int)=fc at*;simp only[Tryz.ntmps47,List.size_toArray,z2i,z28,Nat.reduceAdd,Nat.reduceSub,Array.replicate_succ,Array.replicate_zero,List.push_toArray,List.append_toArray,List.nil_append,List.cons_append];apply wpS_seq;apply wpS_region;simp[wpOpsS,go_sem,recoverD,hu];have hta: ∀t0 W,(Instr.typeAssert (.iface 90 (.agg #[.int .i64 fa,.int .i64 fc])) t0 90 true).run z2f W= .ok (.tuple #[.agg #[.int .i64 fa,.int .i64 fc],.bool true]) W:=fun _ _=>rfl;refine wpS_of_wp ?_;go_upto_region 5 with fail
 refine zae fun V hV=> ?_;have hT:zab (fun b=>b=S+1\/b=S+2\/b=S+3) w V:=by rw[hV];exact tur
 have hZ:OutZ V (S+1):=by
  rw[hV];refine⟨?_, ?_, ?_, ?_, ?_, ?_, ?_, ?_, ?_, ?_,fun j=> ?_⟩<;>simp[go_sem, *]
 have ha2:V.cell? ⟨S+2,0,none⟩=some (.int .i64 s.size):=by rw[hV];simp[go_sem, *]
 have hk2:V.cell? ⟨S+3,0,none⟩=some (.int .i64 2):=by rw[hV];simp[go_sem, *]
 have hfa2:V.frozen? ⟨S+2,0,none⟩=false:=by rw[hV];simp[go_sem, *]
 have hfk2:V.frozen? ⟨S+3,0,none⟩=false:=by rw[hV];simp[go_sem, *]
 obtain⟨B,hB⟩: ∃B,w.heap.size=B:=⟨_,rfl⟩;have b0:V.cell? ⟨B,0,none⟩=some (.int .i64 fa):=by rw[hV,<-hB];simp[go_sem]
 have b1:V.cell? ⟨B,1,none⟩=some (.int .i64 fc):=by rw[hV,<-hB];simp[go_sem]
 rw[hB];have hBS:S+3<B:=by rw[<-hB];exact hb3
 have HT:=z2c hT;have HZ:=z2c hZ;clear hV hB hT hZ c0 c1 c2 c3 c4 c5 c6 c7 c8 c9 f0 f1 f2 f3 f4 f5 f6 f7 f8 f9 fz hb0 hb1 hb2 hb3 hs ha hk hfa hfk;go_region;refine⟨rfl,_,rfl,.tuple #[],by simp[results,Tryz.results47],rfl,rfl, ?_, ?_, ?_, ?_⟩
 ·obtain⟨c0,c1,c2,c3,c4,c5,c6,c7,c8,c9,fz⟩:=HZ.out;exact⟨by simp[go_sem,c0],by simp[go_sem,c1],by simp[go_sem,c2],by simp[go_sem,c3],by simp[go_sem,c4],by simp[go_sem,c5],by simp[go_sem,c6],by simp[go_sem,c7],by simp[go_sem,c8],by simp[go_sem,c9],fun j=>by simp[go_sem,fz]⟩
 ·simp[go_sem,ha2]
 ·simp[go_sem,hk2]
 ·have hT:=HT.out;exact tur
def zd5:Value:= .agg #[.slice none 0 0,.slice none 0 0,.slice none 0 0,.slice none 0 0,.slice none 0 0,.slice none 0 0,.bool false,.int .i64 0,.int .i64 0,.int .i64 0]
theorem zwj (s:ByteArray) (w:World) (hm:8192<s.size):Calls z2f 46 #[.string s] w (Ret (.tuple #[.slice none 0 0,.int .i64 0,.int .i64 3]) w):=by
 have h8:decide ((8192:Int)<s.size)=true:=by simp;omega
 clear hm;go_enter Tryz.func46,Tryz.ntmps46;go_wp2
 refine bodyPost_ret (v:= .tuple #[.slice none 0 0,.int .i64 0,.int .i64 3]) ?_ rfl (Ret.of rfl bel);simp[results,Tryz.results46,go_sem]
theorem zjn {w W0:World} {s:ByteArray} {S A K:Nat} {e1 e2 e3 e4:TypeId} (hW0:W0=(((w.alloc (.cells #[.string s] e1)).alloc (.cells #[.slice none 0 0,.slice none 0 0,.slice none 0 0,.slice none 0 0,.slice none 0 0,.slice none 0 0,.bool false,.int .i64 0,.int .i64 0,.int .i64 0] e2)).alloc (.cells #[.int .i64 0] e3)).alloc (.cells #[.int .i64 0] e4))
  (hS:w.heap.size=S) (hA:S+1+1=A) (hK:S+1+1+1=K):
  S+4<=W0.heap.size/\Below S w W0/\W0.cell? ⟨S,0,none⟩=some (.string s)/\OutZ W0 (S+1)/\W0.cell? ⟨A,0,none⟩=some (.int .i64 0)/\W0.cell? ⟨K,0,none⟩=some (.int .i64 0)/\W0.frozen? ⟨A,0,none⟩=false/\W0.frozen? ⟨K,0,none⟩=false:=by
 subst hW0 hK hA hS;refine⟨by simp,bel,by simp[go_sem],⟨?_, ?_, ?_, ?_, ?_, ?_, ?_, ?_, ?_, ?_,fun j=> ?_⟩, ?_, ?_, ?_, ?_⟩<;>simp[go_sem]
theorem OutC.below {W W':World} {O:Nat} {u0 u1 u2 u3 u4 u5 u6 u7 u8 u9:Value} (h:OutC W O u0 u1 u2 u3 u4 u5 u6 u7 u8 u9) {B:Nat} (hO:O<B) (hb:Below B W W'):OutC W' O u0 u1 u2 u3 u4 u5 u6 u7 u8 u9:=by
 have hc: ∀j,W'.cell? ⟨O,j,none⟩=W.cell? ⟨O,j,none⟩:=fun j=>hb.cell hO;exact⟨(hc 0).trans h.c0,(hc 1).trans h.c1,(hc 2).trans h.c2,(hc 3).trans h.c3,(hc 4).trans h.c4,(hc 5).trans h.c5,(hc 6).trans h.c6,(hc 7).trans h.c7,(hc 8).trans h.c8,(hc 9).trans h.c9,fun j=>(World.frozen?_of_block (hb.block _ hO)).trans (h.fz j)⟩
theorem zj1 {W:World} {tmps:Array Value} {O A K:Nat} {a k:Int} {u0 u1 u2 u3 u4 u5 u6 u7 u8 u9:Value} (h2:tmps.getD 2 undef= .pointer (some ⟨O,0,none⟩)) (h3:tmps.getD 3 undef= .pointer (some ⟨A,0,none⟩)) (h4:tmps.getD 4 undef= .pointer (some ⟨K,0,none⟩))
  (hO:OutC W O u0 u1 u2 u3 u4 u5 u6 u7 u8 u9) (ha:W.cell? ⟨A,0,none⟩=some (.int .i64 a)) (hk:W.cell? ⟨K,0,none⟩=some (.int .i64 k)):
  (results Tryz.f20 tmps).run z2f W= .ok (.tuple #[.agg #[u0,u1,u2,u3,u4,u5,u6,u7,u8,u9],.int .i64 a,.int .i64 k]) W:=by
 obtain⟨c0,c1,c2,c3,c4,c5,c6,c7,c8,c9,fz⟩:=hO;simp only[Array.getD_eq_getD_getElem?]at h2 h3 h4;simp[results,Tryz.results20,go_sem,h2,h3,h4,c0,c1,c2,c3,c4,c5,c6,c7,c8,c9,ha,hk]
theorem OutC.store {W:World} {O:Nat} {u0 u1 u2 u3 u4 u5 u6 u7 u8 u9:Value} (h:OutC W O u0 u1 u2 u3 u4 u5 u6 u7 u8 u9) (v0 v1 v2 v3 v4 v5 v6 v7 v8 v9:Value):OutC ((((((((((W.setCell ⟨O,0,none⟩ v0).setCell ⟨O,1,none⟩ v1).setCell ⟨O,2,none⟩ v2).setCell ⟨O,3,none⟩ v3).setCell ⟨O,4,none⟩ v4).setCell ⟨O,5,none⟩ v5).setCell ⟨O,6,none⟩ v6).setCell ⟨O,7,none⟩ v7).setCell ⟨O,8,none⟩ v8).setCell ⟨O,9,none⟩ v9) O v0 v1 v2 v3 v4 v5 v6 v7 v8 v9:=by
 obtain⟨c0,c1,c2,c3,c4,c5,c6,c7,c8,c9,fz⟩:=h;exact⟨by simp[go_sem,c0],by simp[go_sem,c1],by simp[go_sem,c2],by simp[go_sem,c3],by simp[go_sem,c4],by simp[go_sem,c5],by simp[go_sem,c6],by simp[go_sem,c7],by simp[go_sem,c8],by simp[go_sem,c9],fun j=>by simp[go_sem,fz]⟩
theorem OutC.oth {W:World} {O A i:Nat} {u0 u1 u2 u3 u4 u5 u6 u7 u8 u9:Value} (h:OutC W O u0 u1 u2 u3 u4 u5 u6 u7 u8 u9) (hA:A≠O) (v:Value):OutC (W.setCell ⟨A,i,none⟩ v) O u0 u1 u2 u3 u4 u5 u6 u7 u8 u9:=by
 have hc: ∀j,(W.setCell ⟨A,i,none⟩ v).cell? ⟨O,j,none⟩=W.cell? ⟨O,j,none⟩:=fun j=>World.cell?_setCell_other _ _ _ _ (by intro e;cases e;exact hA rfl);exact⟨(hc 0).trans h.c0,(hc 1).trans h.c1,(hc 2).trans h.c2,(hc 3).trans h.c3,(hc 4).trans h.c4,(hc 5).trans h.c5,(hc 6).trans h.c6,(hc 7).trans h.c7,(hc 8).trans h.c8,(hc 9).trans h.c9,fun j=>by rw[World.frozen?_setCell];exact h.fz j⟩
theorem OutC.drew {W:World} {O:Nat} {u0 u1 u2 u3 u4 u5 u6 u7 u8 u9:Value} (h:OutC W O u0 u1 u2 u3 u4 u5 u6 u7 u8 u9):OutC W.drew O u0 u1 u2 u3 u4 u5 u6 u7 u8 u9:=⟨h.c0,h.c1,h.c2,h.c3,h.c4,h.c5,h.c6,h.c7,h.c8,h.c9,h.fz⟩
theorem ze5 {W:World} {O A:Nat} (hA:A≠O) (v0 v1 v2 v3 v4 v5 v6 v7 v8 v9:Value):((((((((((W.setCell ⟨O,0,none⟩ v0).setCell ⟨O,1,none⟩ v1).setCell ⟨O,2,none⟩ v2).setCell ⟨O,3,none⟩ v3).setCell ⟨O,4,none⟩ v4).setCell ⟨O,5,none⟩ v5).setCell ⟨O,6,none⟩ v6).setCell ⟨O,7,none⟩ v7).setCell ⟨O,8,none⟩ v8).setCell ⟨O,9,none⟩ v9).cell? ⟨A,0,none⟩=W.cell? ⟨A,0,none⟩:=by
 rw[World.cell?_setCell_other _ _ _ _ (by intro e;cases e<;>exact hA rfl),World.cell?_setCell_other _ _ _ _ (by intro e;cases e<;>exact hA rfl),World.cell?_setCell_other _ _ _ _ (by intro e;cases e<;>exact hA rfl),World.cell?_setCell_other _ _ _ _ (by intro e;cases e<;>exact hA rfl),World.cell?_setCell_other _ _ _ _ (by intro e;cases e<;>exact hA rfl),World.cell?_setCell_other _ _ _ _ (by intro e;cases e<;>exact hA rfl),World.cell?_setCell_other _ _ _ _ (by intro e;cases e<;>exact hA rfl),World.cell?_setCell_other _ _ _ _ (by intro e;cases e<;>exact hA rfl),World.cell?_setCell_other _ _ _ _ (by intro e;cases e<;>exact hA rfl),World.cell?_setCell_other _ _ _ _ (by intro e;cases e<;>exact hA rfl)]
theorem za0 {W V:World} {S O:Nat} (hS:S<=O) (h:Below S V W) (v0 v1 v2 v3 v4 v5 v6 v7 v8 v9:Value):Below S V ((((((((((W.setCell ⟨O,0,none⟩ v0).setCell ⟨O,1,none⟩ v1).setCell ⟨O,2,none⟩ v2).setCell ⟨O,3,none⟩ v3).setCell ⟨O,4,none⟩ v4).setCell ⟨O,5,none⟩ v5).setCell ⟨O,6,none⟩ v6).setCell ⟨O,7,none⟩ v7).setCell ⟨O,8,none⟩ v8).setCell ⟨O,9,none⟩ v9):=((((((((((h.setCell (p:=⟨O,0,none⟩) hS v0).setCell (p:=⟨O,1,none⟩) hS v1).setCell (p:=⟨O,2,none⟩) hS v2).setCell (p:=⟨O,3,none⟩) hS v3).setCell (p:=⟨O,4,none⟩) hS v4).setCell (p:=⟨O,5,none⟩) hS v5).setCell (p:=⟨O,6,none⟩) hS v6).setCell (p:=⟨O,7,none⟩) hS v7).setCell (p:=⟨O,8,none⟩) hS v8).setCell (p:=⟨O,9,none⟩) hS v9)
theorem zkk {W:World} {A K:Nat} {x y a k:Value} (h:A≠K) (ca:W.cell? ⟨A,0,none⟩=some x) (ck:W.cell? ⟨K,0,none⟩=some y):((W.setCell ⟨A,0,none⟩ a).setCell ⟨K,0,none⟩ k).drew.cell? ⟨A,0,none⟩=some a/\((W.setCell ⟨A,0,none⟩ a).setCell ⟨K,0,none⟩ k).drew.cell? ⟨K,0,none⟩=some k:=by
 have hd: ∀(X:World) p,X.drew.cell? p=X.cell? p:=fun _ _=>rfl;rw[hd,hd];have h1:(W.setCell ⟨A,0,none⟩ a).cell? ⟨K,0,none⟩=some y:=(World.cell?_setCell_other _ _ _ _ (by intro e;cases e;exact h rfl)).trans ck;exact⟨(World.cell?_setCell_other _ _ _ _ (by intro e;cases e;exact h rfl)).trans (World.cell?_setCell_same _ _ _ ca),World.cell?_setCell_same _ _ _ h1⟩
theorem zos (s:ByteArray) (w:World) (n code:Nat) (hc:code≠0) (HS: ∀W,Calls z2f 46 #[.string s] W fun e w'=>e= .returned (.tuple #[.slice none 0 0,.int .i64 n,.int .i64 code])/\Below W.heap.size W w'):
  Calls z2f 20 #[.string s] w fun e w'=>e= .returned (.tuple #[zd5,.int .i64 n,.int .i64 code])/\Below w.heap.size w w':=by
 have hmf: ∀(fn:Fn) (first cap:Array Value) (w:World),(Instr.makeFunc fn first cap).run z2f w= .ok (.func fn first cap) w:=fun _ _ _ _=>rfl;have HSc:=z2c HS;clear HS;go_enter_defers Tryz.func20,Tryz.ntmps20
 go_upto_region 1 with fail
 refine zae fun W0 hW0=> ?_;obtain⟨S,hS⟩: ∃S,w.heap.size=S:=⟨_,rfl⟩;obtain⟨K,hK⟩: ∃K,S+1+1+1=K:=⟨_,rfl⟩;obtain⟨A,hA⟩: ∃A,S+1+1=A:=⟨_,rfl⟩;have st:=zjn hW0 hS hA hK;rw[hS,hK,hA];obtain⟨hl,hb0,cs,hO,ca,ck,fa,fk⟩:=st;clear hW0;have HO:=z2c hO;have HB0:=z2c hb0;clear hO hb0;have hcb:((code:Int) !=0)=true:=by simp;omega
 have hAK: ¬A=K:=by omega
 have hKA: ¬K=A:=by omega
 have hOA: ¬S+1=A:=by omega
 have hOK: ¬S+1=K:=by omega
 have hAO: ¬A=S+1:=by omega
 have hKO: ¬K=S+1:=by omega
 have hlA:A<W0.heap.size:=by omega
 have hlK:K<W0.heap.size:=by omega
 have hlO:S+1<W0.heap.size:=by omega
 go_upto_region 2 with(go_at_call 46;(with_reducible refine(HSc.out _).mono ?_);rintro e W1 ⟨rfl,hb1⟩;have HB1:=z2c hb1;have ca1:=(hb1.cell (p:=⟨A,0,none⟩) hlA).trans ca;have ck1:=(hb1.cell (p:=⟨K,0,none⟩) hlK).trans ck;have fa1:=(hb1.frozen (p:=⟨A,0,none⟩) hlA).trans fa;have fk1:=(hb1.frozen (p:=⟨K,0,none⟩) hlK).trans fk;clear hb1)
 refine zae fun W2 hW2=> ?_;have hO2:OutZ W2 (S+1):=by
  rw[hW2];obtain⟨c0,c1,c2,c3,c4,c5,c6,c7,c8,c9,fz⟩:=(HO.out.below hlO HB1.out);exact⟨by simp[go_sem,c0],by simp[go_sem,c1],by simp[go_sem,c2],by simp[go_sem,c3],by simp[go_sem,c4],by simp[go_sem,c5],by simp[go_sem,c6],by simp[go_sem,c7],by simp[go_sem,c8],by simp[go_sem,c9],fun j=>by simp[go_sem,fz]⟩
 have hb2:Below S w W2:=by
  rw[hW2];have h3:=HB0.out.trans (HB1.out.mono (by omega));exact(h3.setCell (by show S<=A;omega) _).setCell (by show S<=K;omega) _
 have ca2:W2.cell? ⟨A,0,none⟩=some (.int .i64 n):=by rw[hW2];simp[go_sem,ca1]
 have ck2:W2.cell? ⟨K,0,none⟩=some (.int .i64 code):=by rw[hW2];simp[go_sem,ck1]
 have fa2:W2.frozen? ⟨A,0,none⟩=false:=by rw[hW2];simp[go_sem,fa1]
 have fk2:W2.frozen? ⟨K,0,none⟩=false:=by rw[hW2];simp[go_sem,fk1]
 clear hW2 ca1 ck1 fa1 fk1 ca ck fa fk cs HO;obtain⟨c0,c1,c2,c3,c4,c5,c6,c7,c8,c9,fz⟩:=hO2;have f0:=fz 0;have f1:=fz 1;have f2:=fz 2;have f3:=fz 3;have f4:=fz 4;have f5:=fz 5;have f6:=fz 6;have f7:=fz 7;have f8:=fz 8;have f9:=fz 9;have HB2:=z2c hb2;have HFz:=z2c fz;clear hb2 fz;go_upto_region 3 with fail
 go_region;go_wp2
 simp only[bodyPostD,Leaves];have hb3:=HB2.out;have hO3:OutZ W2 (S+1):=⟨c0,c1,c2,c3,c4,c5,c6,c7,c8,c9,HFz.out⟩;refine⟨_,zj1 (O:=S+1) (A:=A) (K:=K) rfl rfl rfl ((((hO3.store _ _ _ _ _ _ _ _ _ _).oth hAO _).oth hKO _).drew) ?_ ?_,rfl, ?_⟩
 ·exact(zkk hAK ((ze5 hAO _ _ _ _ _ _ _ _ _ _).trans ca2) ((ze5 hKO _ _ _ _ _ _ _ _ _ _).trans ck2)).1
 ·exact(zkk hAK ((ze5 hAO _ _ _ _ _ _ _ _ _ _).trans ca2) ((ze5 hKO _ _ _ _ _ _ _ _ _ _).trans ck2)).2
 ·have hA:S<=A:=by omega
  have hK:S<=K:=by omega
  rw[hS];exact(((za0 (Nat.le_succ S) hb3 _ _ _ _ _ _ _ _ _ _).setCell (p:=⟨A,0,none⟩) hA _).setCell (p:=⟨K,0,none⟩) hK _).drew
theorem Rx.ofOwn {W:World} {B:Nat} {e:TypeId} {size:Nat} {v:Value} {n:Nat} {xs:List Value} {bad:Nat->Prop} (h:W.ownsRow B e size v n xs) (hb: ∀b,v.ownBlock=some b-> ¬bad b):Rx W bad v n size xs:=by
 obtain⟨A,c,rfl,_⟩:=zah h;exact⟨A,c,rfl,zmz h,Rd.own h,fun _ b off s he=>hb b (by subst he;rfl)⟩
theorem Par.start {W V:World} {en base:Nat} {A:Option Addr} {n c:Nat} {l:List Lx} {e:TypeId} (hn:n=l.length) (ho:W.ownsRow base 112 3 (.slice A n c) n (za6 l)) (hc:n<=c)
  (hV:V=(W.alloc (.map #[] 0)).alloc (.cells #[.slice A n c,.int .i64 en,.slice none 0 0,.slice none 0 0,.slice none 0 0,.slice none 0 0,.slice none 0 0,.slice none 0 0,.bool false,.int .i64 64,.int .i64 32,.int .i64 1024,.map (some W.heap.size)] e)):
  Par en W.heap.size ⟨l,pol0,[]⟩ V:=by
 subst hn;have hb:Below W.heap.size W V:=by rw[hV];exact bel
 have hr:Rx W (fun b=>W.heap.size<=b) (.slice A l.length c) l.length 3 (za6 l):=Rx.ofOwn ho (fun b hb=>by have:=(ho.lt b hb).2;omega);have hnil: ∀j,j<6->V.cell? ⟨W.heap.size+1,2+j,none⟩=some (.slice none 0 0):=fun j hj=>by
  rcases(by omega:j=0\/j=1\/j=2\/j=3\/j=4\/j=5)with rfl|rfl|rfl|rfl|rfl|rfl<;>(rw[hV];simp[go_sem])
 refine⟨⟨⟨A,c,by rw[hV];simp[go_sem],hc,hr.below hb⟩,by rw[hV];simp[go_sem],fun j=>by rw[hV];simp[go_sem]⟩,fun j hj=>⟨_,hnil j hj, ?_⟩,fun i j v u b hi hj _ hv _ hb=> ?_,by rw[hV];simp[go_sem,pol0],by rw[hV];simp[go_sem,pol0],by rw[hV];simp[go_sem,pol0],by rw[hV];simp[go_sem,pol0],by rw[hV];simp[go_sem], ?_⟩
 ·rcases(by omega:j=0\/j=1\/j=2\/j=3\/j=4\/j=5)with rfl|rfl|rfl|rfl|rfl|rfl<;>exact World.ownsRow_nil _ _ _ _
 ·rw[hnil i hi]at hv;cases hv;cases hb
 ·refine⟨0,.map [],Nat.le_refl _,by simp, ?_,Maps.isMap_empty,fun t=>rfl⟩;rw[hV];exact(World.ownsMap_made W _ _ _).alloc _
theorem Par.polV {en M:Nat} {s:Ps} {W:World} (h:Par en M s W) {v0 v1 v2 v3 v4 v5:Value} (c2:W.cell? ⟨M+1,2,none⟩=some v0) (c3:W.cell? ⟨M+1,3,none⟩=some v1) (c4:W.cell? ⟨M+1,4,none⟩=some v2) (c5:W.cell? ⟨M+1,5,none⟩=some v3) (c6:W.cell? ⟨M+1,6,none⟩=some v4) (c7:W.cell? ⟨M+1,7,none⟩=some v5):
  PolV W (fun _=>False) (.agg #[v0,v1,v2,v3,v4,v5,.bool s.pol.rel,.int .i64 s.pol.depth,.int .i64 s.pol.name,.int .i64 s.pol.value]) s.pol:=by
 have key: ∀j v,j<6->W.cell? ⟨M+1,2+j,none⟩=some v->Rx W (fun _=>False) v (fN s.pol j) (fS j) (fC s.pol j):=fun j v hj hv=>by
  obtain⟨u,hu,ho⟩:=h.row j hj;rw[hv]at hu;cases hu;exact Rx.ofOwn ho (fun _ _ hx=>hx)
 exact⟨v0,v1,v2,v3,v4,v5,rfl,key 0 v0 (by omega) c2,key 1 v1 (by omega) c3,key 2 v2 (by omega) c4,key 3 v3 (by omega) c5,key 4 v4 (by omega) c6,key 5 v5 (by omega) c7⟩
theorem PsSm.pol {s:Ps} (h:PsSm s):zir s.pol:=by
 have h0:=h.rows 0;have h1:=h.rows 1;have h2:=h.rows 2;have h3:=h.rows 3;have h4:=h.rows 4;have h5:=h.rows 5;simp only[fN]at h0 h1 h2 h3 h4 h5;exact⟨by omega,by omega,by omega,by omega,by omega,by omega⟩
def zy7 (R:Rs Pol) (w:World) (e:Ending) (w':World):Prop:=Below w.heap.size w w'/\match R with
 | .ok p=> ∃v,e= .returned (.tuple #[v,.int .i64 0,.int .i64 0])/\PolV w' (fun b=>b<w.heap.size) v p
 | .error f=>e= .returned (.tuple #[zd5,.int .i64 f.at_,.int .i64 f.code])
def zcq (s:Bs) (w:World) (e:Ending) (w':World):Prop:=zy7 (zbb s) w e w'
theorem PolV.turned {W W':World} {bad:Nat->Prop} {v:Value} {p:Pol} (h:PolV W bad v p) (ht:zab bad W W'):PolV W' bad v p:=by
 obtain⟨v0,v1,v2,v3,v4,v5,rfl,h0,h1,h2,h3,h4,h5⟩:=h;exact⟨v0,v1,v2,v3,v4,v5,rfl,h0.turned ht,h1.turned ht,h2.turned ht,h3.turned ht,h4.turned ht,h5.turned ht⟩
theorem zo3 {S A K:Nat} {s:ByteArray} {f:Flt} {tmps:Array Value} {w W:World} {u0 u1 u2 u3 u4 u5 u6 u7 u8 u9:Value} {a0 k0:Int} {R:Ending->World->Prop} (hA:S+1+1=A) (hK:S+1+1+1=K) (h2:tmps.getD 2 undef= .pointer (some ⟨S+1,0,none⟩)) (h3:tmps.getD 3 undef= .pointer (some ⟨A,0,none⟩)) (h4:tmps.getD 4 undef= .pointer (some ⟨K,0,none⟩))
  (hs:W.cell? ⟨S,0,none⟩=some (.string s)) (ho:OutC W (S+1) u0 u1 u2 u3 u4 u5 u6 u7 u8 u9) (ha:W.cell? ⟨A,0,none⟩=some (.int .i64 a0)) (hk:W.cell? ⟨K,0,none⟩=some (.int .i64 k0)) (hfa:W.frozen? ⟨A,0,none⟩=false) (hfk:W.frozen? ⟨K,0,none⟩=false)
  (hb:Below S w W) (hR: ∀w',Below S w w'->R (.returned (.tuple #[zd5,.int .i64 f.at_,.int .i64 f.code])) w') {d:Deferred} (hd:d={target:= .fn (.func 47) #[.pointer (some ⟨S,0,none⟩),.pointer (some ⟨S+1,0,none⟩),.pointer (some ⟨A,0,none⟩),.pointer (some ⟨K,0,none⟩)],args:= #[]}):
  Leaves z2f Tryz.f20 tmps R [d] (.panicking [{v:=fltV f,recovered:=false}]) W:=by
 subst hd hA hK;refine leaves_cons (f:=47) (args:= #[.pointer (some ⟨S,0,none⟩),.pointer (some ⟨S+1,0,none⟩),.pointer (some ⟨S+2,0,none⟩),.pointer (some ⟨S+3,0,none⟩)]) (by simp) (by simp[go_sem]) ?_;refine(zym S s f [] W a0 k0 hs ho ha hk hfa hfk).mono ?_;rintro e u' w' ⟨rfl,rfl,hz,hca,hck,ht⟩;have hb2:Below S w w':=hb.trans (ht.below (by have:=World.block_lt_of_cell? W _ hs;show S<=W.heap.size;exact Nat.le_of_lt this) (fun k hk=>by omega));simp only[settle];exact⟨_,zj1 h2 h3 h4 hz hca hck,hR w' hb2⟩
theorem zie {W V:World} {O:Nat} {pv:Nat->Prop} (h:zab pv V W) (hO:pv O) (v0 v1 v2 v3 v4 v5 v6 v7 v8 v9:Value):zab pv V ((((((((((W.setCell ⟨O,0,none⟩ v0).setCell ⟨O,1,none⟩ v1).setCell ⟨O,2,none⟩ v2).setCell ⟨O,3,none⟩ v3).setCell ⟨O,4,none⟩ v4).setCell ⟨O,5,none⟩ v5).setCell ⟨O,6,none⟩ v6).setCell ⟨O,7,none⟩ v7).setCell ⟨O,8,none⟩ v8).setCell ⟨O,9,none⟩ v9):=((((((((((h.setCell (p:=⟨O,0,none⟩) (.inr hO) v0).setCell (p:=⟨O,1,none⟩) (.inr hO) v1).setCell (p:=⟨O,2,none⟩) (.inr hO) v2).setCell (p:=⟨O,3,none⟩) (.inr hO) v3).setCell (p:=⟨O,4,none⟩) (.inr hO) v4).setCell (p:=⟨O,5,none⟩) (.inr hO) v5).setCell (p:=⟨O,6,none⟩) (.inr hO) v6).setCell (p:=⟨O,7,none⟩) (.inr hO) v7).setCell (p:=⟨O,8,none⟩) (.inr hO) v8).setCell (p:=⟨O,9,none⟩) (.inr hO) v9)
theorem zt6 {S A K:Nat} {tmps:Array Value} {W:World} {u0 u1 u2 u3 u4 u5 u6 u7 u8 u9:Value} {a0 k0:Int} {R:Ending->World->Prop} (h2:tmps.getD 2 undef= .pointer (some ⟨S+1,0,none⟩)) (h3:tmps.getD 3 undef= .pointer (some ⟨A,0,none⟩)) (h4:tmps.getD 4 undef= .pointer (some ⟨K,0,none⟩))
  (ho:OutC W (S+1) u0 u1 u2 u3 u4 u5 u6 u7 u8 u9) (hak:W.cell? ⟨A,0,none⟩=some (.int .i64 a0)/\W.cell? ⟨K,0,none⟩=some (.int .i64 k0)) (hR:R (.returned (.tuple #[.agg #[u0,u1,u2,u3,u4,u5,u6,u7,u8,u9],.int .i64 a0,.int .i64 k0])) W)
  {d:Deferred} (hd:d={target:= .fn (.func 47) #[.pointer (some ⟨S,0,none⟩),.pointer (some ⟨S+1,0,none⟩),.pointer (some ⟨A,0,none⟩),.pointer (some ⟨K,0,none⟩)],args:= #[]}):
  Leaves z2f Tryz.f20 tmps R [d] .returning W:=by
 subst hd;refine leaves_cons (f:=47) (args:= #[.pointer (some ⟨S,0,none⟩),.pointer (some ⟨S+1,0,none⟩),.pointer (some ⟨A,0,none⟩),.pointer (some ⟨K,0,none⟩)]) (by simp) (by simp[go_sem]) ?_;refine(zuz _ _ _ _ W).mono ?_;rintro e u' w' ⟨rfl,rfl,rfl⟩;simp only[settle,Leaves];exact⟨_,zj1 h2 h3 h4 ho hak.1 hak.2,hR⟩
theorem zul {W:World} {A K:Nat} {x y a k:Value} (h:A≠K) (ca:W.cell? ⟨A,0,none⟩=some x) (ck:W.cell? ⟨K,0,none⟩=some y):((W.setCell ⟨A,0,none⟩ a).setCell ⟨K,0,none⟩ k).cell? ⟨A,0,none⟩=some a/\((W.setCell ⟨A,0,none⟩ a).setCell ⟨K,0,none⟩ k).cell? ⟨K,0,none⟩=some k:=zkk h ca ck
theorem zzz (s:ByteArray) (l:List Lx) (w:World) (hs:s.size<=8192) (hl:zd2 0 s.data.toList= .ok l):Calls z2f 20 #[.string s] w (zcq s.data.toList w):=by
 have hmf: ∀(fn:Fn) (first cap:Array Value) (w:World),(Instr.makeFunc fn first cap).run z2f w= .ok (.func fn first cap) w:=fun _ _ _ _=>rfl;have hmm:= @run_makeMap z2f;have hsz:s.data.toList.length=s.size:=by simp
 obtain⟨hsm,hok⟩:=zmn hl (by omega);have HPar0:Hid (zbb s.data.toList=match runP s.size ⟨l,pol0,[]⟩with
   | .error e=> .error e
   | .ok t=>if fitB (za7 t.pol)then .ok (za7 t.pol)else .error ⟨s.size,3⟩):=by
  show _=_;unfold zbb;rw[if_neg (by omega),hl,hsz];rfl
 rw[hsz]at hok;have HSm:=z2c hsm;have HOk:=z2c hok;have HSc:=z2c (fun W=>show Calls z2f 46 #[.string s] W (fun e w'=> ∃A c,e= .returned (.tuple #[.slice A l.length c,.int .i64 0,.int .i64 0])/\Below W.heap.size W w'/\l.length<=c/\w'.ownsRow W.heap.size 112 3 (.slice A l.length c) l.length (za6 l))from(zn8 s W hs).mono fun e w' h=>by
  rw[hl]at h;obtain⟨v,hb,he,ho⟩:=h;obtain⟨A,c,rfl,hc⟩:=zah ho;exact⟨A,c,he,hb,hc,ho⟩)
 unfold zcq;obtain⟨R,hR⟩: ∃R,zbb s.data.toList=R:=⟨_,rfl⟩;rw[hR]at HPar0 ⊢;clear hR hl hsz hsm hok;go_enter_defers Tryz.func20,Tryz.ntmps20
 go_upto_region 1 with fail
 refine zae fun W0 hW0=> ?_;obtain⟨S,hS⟩: ∃S,w.heap.size=S:=⟨_,rfl⟩;obtain⟨K,hK⟩: ∃K,S+1+1+1=K:=⟨_,rfl⟩;obtain⟨A,hA⟩: ∃A,S+1+1=A:=⟨_,rfl⟩;have st:=zjn hW0 hS hA hK;rw[hS,hK,hA];obtain⟨hl0,hb0,cs,hO,ca,ck,fa,fk⟩:=st;clear hW0;have HO:=z2c hO;have HB0:=z2c hb0;clear hO hb0;have hAK: ¬A=K:=by omega
 have hKA: ¬K=A:=by omega
 have hOA: ¬S+1=A:=by omega
 have hOK: ¬S+1=K:=by omega
 have hAO: ¬A=S+1:=by omega
 have hKO: ¬K=S+1:=by omega
 have hlA:A<W0.heap.size:=by omega
 have hlK:K<W0.heap.size:=by omega
 have hlO:S+1<W0.heap.size:=by omega
 have hlS:S<W0.heap.size:=by omega
 have hSA: ¬S=A:=by omega
 have hSK: ¬S=K:=by omega
 go_upto_region 2 with(go_at_call 46;(with_reducible refine(HSc.out _).mono ?_);rintro e W1 ⟨Al,cl,rfl,hb1,hcl,hol⟩;have HB1:=z2c hb1;have HOl:=z2c hol;have cs1:=(hb1.cell (p:=⟨S,0,none⟩) hlS).trans cs;have ca1:=(hb1.cell (p:=⟨A,0,none⟩) hlA).trans ca;have ck1:=(hb1.cell (p:=⟨K,0,none⟩) hlK).trans ck;have fa1:=(hb1.frozen (p:=⟨A,0,none⟩) hlA).trans fa;have fk1:=(hb1.frozen (p:=⟨K,0,none⟩) hlK).trans fk;clear hb1 hol)
 refine zae fun W2 hW2=> ?_;have hO2:OutZ W2 (S+1):=by
  rw[hW2];exact((HO.out.below hlO HB1.out).oth hAO _).oth hKO _
 have hT2:zab (fun b=>b=A\/b=K) W1 W2:=by rw[hW2];exact tur
 have hb2:Below S w W2:=(HB0.out.trans (HB1.out.mono (by omega))).trans (hT2.below (by have:=HB1.out.size;omega) (fun k hk=>by omega));have cs2:W2.cell? ⟨S,0,none⟩=some (.string s):=by rw[hW2];simp[go_sem,cs1]
 have ca2:W2.cell? ⟨A,0,none⟩=some (.int .i64 0):=by rw[hW2];simp[go_sem,ca1]
 have ck2:W2.cell? ⟨K,0,none⟩=some (.int .i64 0):=by rw[hW2];simp[go_sem,ck1]
 have fa2:W2.frozen? ⟨A,0,none⟩=false:=by rw[hW2];simp[go_sem,fa1]
 have fk2:W2.frozen? ⟨K,0,none⟩=false:=by rw[hW2];simp[go_sem,fk1]
 have HOl2:=z2c (hT2.own HOl.out (fun k hk=>by omega));have hl2:S+4<=W2.heap.size:=z2j (z2j hl0 HB1.out.size) hT2.size;have HO2:=z2c hO2;have HB2:=z2c hb2;clear hW2 hT2 hb2 hO2 cs ca ck fa fk cs1 ca1 ck1 fa1 fk1 HO HB0 HB1 HOl hlA hlK hlO hlS;obtain⟨M,hM⟩: ∃M,W2.heap.size=M:=⟨_,rfl⟩;go_upto_region 6 with fail
 refine zae fun V hV=> ?_;have hPS:=Par.start (en:=s.size) (V:=V) rfl HOl2.out hcl (by rw[hM];exact hV);have hbV:Below W2.heap.size W2 V:=by rw[hV];exact bel
 clear hV HOl2;rw[hM]at hPS hbV;have HPS:=z2c hPS;have HBV:=z2c hbV;clear hPS hbV;go_loopw [26] (fun _ wr=> ∃t:Ps,Hid (Par s.size M t wr)/\Hid (PsSm t)/\Hid (zdb s.size t.rest/\zkp t.pol)/\Hid (runP s.size ⟨l,pol0,[]⟩=runP s.size t)/\Hid (Below M W2 wr)) (fun _ wr=>zfz M wr)
 case atStart=>exact⟨⟨l,pol0,[]⟩,HPS.out,HSm.out,⟨HOk.out,zmv⟩,rfl,HBV.out⟩
 case round=>
  clear HPS HSm HOk HBV;obtain⟨t,HP,HSm,HOk,HK,HB⟩:=hrel;have hcs:=(HB.out.cell (p:=⟨S,0,none⟩) (by show S<M;omega)).trans cs2;have hca:=(HB.out.cell (p:=⟨A,0,none⟩) (by show A<M;omega)).trans ca2;have hck:=(HB.out.cell (p:=⟨K,0,none⟩) (by show K<M;omega)).trans ck2;have hfa:=(HB.out.frozen (p:=⟨A,0,none⟩) (by show A<M;omega)).trans fa2;have hfk:=(HB.out.frozen (p:=⟨K,0,none⟩) (by show K<M;omega)).trans fk2;have HOr:=z2c (HO2.out.below (by omega) HB.out);have HBr:=z2c (HB2.out.trans (HB.out.mono (by omega)));clear cs2 ca2 ck2 fa2 fk2 HO2 HB2;obtain⟨Ar,cr,hcr,_⟩:=HP.out.r.rest;cases hr:t.rest with
  |cons x q=>
   have HRn:Hid (t.rest=x::q):=hr;rw[hr,z2i]at hcr;have HS0:=zmm s.size M t wr HP.out HSm.out (fun y hy h2=>(HOk.out.1 y hy).num h2);have HE:Hid (runP s.size t=match zbf s.size t with
    | .error e=> .error e
    | .ok t=>runP s.size t):=zoc (by rw[hr];simp)
   have HS:=z2c HS0;clear hr HS0;cases h3:zbf s.size t with
   |error f=>
    rw[h3]at HS HE;have HR:Hid (R= .error f):=by show _=_;rw[HPar0.out,HK.out,HE.out]
    have HS2:=z2c (show Calls z2f 48 #[.pointer (some ⟨M+1,0,none⟩)] wr (zlb M wr f)from HS.out);clear HPar0 HK HE h3 HS;go_wp2_with(go_at_call 48;(with_reducible refine HS2.out.mono ?_);rintro e W4 ⟨rfl,hb4⟩;have HB4:=z2c hb4;clear hb4)
    simp only[bodyPostD];refine zo3 hA hK rfl rfl rfl ((HB4.out.cell (p:=⟨S,0,none⟩) (by show S<M;omega)).trans hcs) (HOr.out.below (by omega) HB4.out) ((HB4.out.cell (p:=⟨A,0,none⟩) (by show A<M;omega)).trans hca) ((HB4.out.cell (p:=⟨K,0,none⟩) (by show K<M;omega)).trans hck) ((HB4.out.frozen (p:=⟨A,0,none⟩) (by show A<M;omega)).trans hfa) ((HB4.out.frozen (p:=⟨K,0,none⟩) (by show K<M;omega)).trans hfk) (HBr.out.trans (HB4.out.mono (by omega))) (fun w' hb=> ?_) rfl;rw[HR.out];exact⟨by rw[hS];exact hb,rfl⟩
   |ok t2=>
    rw[h3]at HS HE;have HS2:=z2c (show Calls z2f 48 #[.pointer (some ⟨M+1,0,none⟩)] wr (fun e w'=>e= .returned (.tuple #[])/\Par s.size M t2 w'/\Below M wr w')from HS.out);have HK2:Hid (runP s.size ⟨l,pol0,[]⟩=runP s.size t2):=by show _=_;rw[HK.out,HE.out]
    have HSm2:=z2c (HSm.out.stmt h3);have HOk2:=z2c (zdc h3 HOk.out.2 HOk.out.1);have hlt2:=zct h3;have HLt:=z2c hlt2;clear HPar0 HK HE h3 HS HSm HOk hlt2;go_wp2_with(go_at_call 48;(with_reducible refine HS2.out.mono ?_);rintro e W4 ⟨rfl,hp4,hb4⟩;have HP4:=z2c hp4;have HB4:=z2c hb4;clear hp4 hb4)
    go_roundw
    case rel=>exact⟨t2,HP4.out,HSm2.out,⟨HOk2.out.2,HOk2.out.1⟩,HK2.out,HB.out.trans HB4.out⟩
    case measure=>
     have h1:=HP4.out.r.len;have h2:=HP.out.r.len;have h3:=HLt.out;show zfz M W4<zfz M wr;omega
  |nil=>
   rw[hr,z28]at hcr;have HE:Hid (runP s.size t= .ok t):=zr8 hr;have HR:Hid (R=if fitB (za7 t.pol)then .ok (za7 t.pol)else .error ⟨s.size,3⟩):=by show _=_;rw[HPar0.out,HK.out,HE.out]
   clear HPar0 HK HE hr HOk;obtain⟨v0,v1,v2,v3,v4,v5,c2,c3,c4,c5,c6,c7,⟨A0,n0,k0,rfl⟩,⟨A1,n1,k1,rfl⟩,⟨A2,n2,k2,rfl⟩,⟨A3,n3,k3,rfl⟩,⟨A4,n4,k4,rfl⟩,⟨A5,n5,k5,rfl⟩⟩:=HP.out.cells;have hpv:=HP.out.polV c2 c3 c4 c5 c6 c7;have c8:=HP.out.c8;have c9:=HP.out.c9;have c10:=HP.out.c10;have c11:=HP.out.c11;have hlM:=HP.out.r.lt;have HNe:=z2c (zz8 _ t.pol wr hpv HSm.out.pol);generalize za7 t.pol=P at*;clear hpv HSm;have hlS:=World.block_lt_of_cell? wr _ hcs;have hlA:=World.block_lt_of_cell? wr _ hca;have hlK:=World.block_lt_of_cell? wr _ hck;have hlO:=World.block_lt_of_cell? wr _ HOr.out.c0;clear HB hl0 hl2;go_upto_region 9 with(go_at_call 49;(with_reducible refine HNe.out.mono ?_);rintro e W5 ⟨v',rfl,hb5,hp5⟩;have HP5:=z2c hp5;obtain⟨w0,w1,w2,w3,w4,w5,rfl,⟨B0,l0,rfl,_⟩,⟨B1,l1,rfl,_⟩,⟨B2,l2,rfl,_⟩,⟨B3,l3,rfl,_⟩,⟨B4,l4,rfl,_⟩,⟨B5,l5,rfl,_⟩⟩:=hp5;have HB5:=z2c hb5;obtain⟨z0,z1,z2,z3,z4,z5,z6,z7,z8,z9,zf⟩:=(HOr.out.below hlO hb5);have y0:=zf 0;have y1:=zf 1;have y2:=zf 2;have y3:=zf 3;have y4:=zf 4;have y5:=zf 5;have y6:=zf 6;have y7:=zf 7;have y8:=zf 8;have y9:=zf 9;have HZf:=z2c zf;clear hb5 zf)
   refine zae fun W6 hW6=> ?_;have hz5:OutZ W5 (S+1):=⟨z0,z1,z2,z3,z4,z5,z6,z7,z8,z9,HZf.out⟩;have hO6:=hz5.store (.slice B0 (fN P 0) l0) (.slice B1 (fN P 1) l1) (.slice B2 (fN P 2) l2) (.slice B3 (fN P 3) l3) (.slice B4 (fN P 4) l4) (.slice B5 (fN P 5) l5) (.bool P.rel) (.int .i64 P.depth) (.int .i64 P.name) (.int .i64 P.value);rw[<-hW6]at hO6;have hT6:zab (fun b=>b<=K) W5 W6:=by
    have h9:zab (fun b=>b=S+1) W5 W6:=by rw[hW6];exact tur
    exact h9.mono fun b hb=>by omega
   have hT9:zab (fun b=>b=S+1) W5 W6:=by rw[hW6];exact tur
   have hS5:=HB5.out.size;have hcs6:=(World.cell?_of_block (a:=⟨S,0,none⟩) (hT9.block S (by omega) (by omega))).trans ((HB5.out.cell (p:=⟨S,0,none⟩) hlS).trans hcs);have hca6:=(World.cell?_of_block (a:=⟨A,0,none⟩) (hT9.block A (by omega) (by omega))).trans ((HB5.out.cell (p:=⟨A,0,none⟩) hlA).trans hca);have hck6:=(World.cell?_of_block (a:=⟨K,0,none⟩) (hT9.block K (by omega) (by omega))).trans ((HB5.out.cell (p:=⟨K,0,none⟩) hlK).trans hck);have hfa6:=(World.frozen?_of_block (a:=⟨A,0,none⟩) (hT9.block A (by omega) (by omega))).trans ((HB5.out.frozen (p:=⟨A,0,none⟩) hlA).trans hfa);have hfk6:=(World.frozen?_of_block (a:=⟨K,0,none⟩) (hT9.block K (by omega) (by omega))).trans ((HB5.out.frozen (p:=⟨K,0,none⟩) hlK).trans hfk);have hp6:=(HP5.out.mono (bad':=fun b=>b<=K) (fun b _ hb=>by show b<wr.heap.size;have h9:K<wr.heap.size:=hlK;omega)).turned hT6;have hb6:Below S w W6:=(HBr.out.trans (HB5.out.mono (by omega))).trans (hT9.below (by omega) (fun k hk=>by omega));have HB6:=z2c hb6;have HP6:=z2c hp6;have HO6:=z2c hO6;have HFi:=z2c (zsr _ _ P W6 hp6);have hK6:K<W6.heap.size:=World.block_lt_of_cell? W6 _ hck6;obtain⟨o0,o1,o2,o3,o4,o5,o6,o7,o8,o9,of⟩:=hO6;clear hW6 hz5 hT6 hT9 hb6 hp6 z0 z1 z2 z3 z4 z5 z6 z7 z8 z9 y0 y1 y2 y3 y4 y5 y6 y7 y8 y9 HZf HP5 HB5 HOr HBr hcs hca hck hfa hfk c2 c3 c4 c5 c6 c7 c8 c9 c10 c11 HNe hcr hlS hlA hlK hlO hlM of;cases hf:fitB P with
   |false=>
    rw[hf]at HFi HR;have HR:Hid (R= .error ⟨s.size,3⟩):=HR.out;clear hf;go_wp2_with(go_at_call 50;(with_reducible refine HFi.out.mono ?_);rintro e W7 ⟨rfl,X7,rfl⟩)
    simp only[bodyPostD];have hb7:Below W6.heap.size W6 (W6.grow X7):=bel;refine zo3 (f:=⟨s.size,3⟩) hA hK rfl rfl rfl ((hb7.cell (p:=⟨S,0,none⟩) (by show S<_;omega)).trans hcs6) (HO6.out.below (by omega) hb7) ((hb7.cell (p:=⟨A,0,none⟩) (by show A<_;omega)).trans hca6) ((hb7.cell (p:=⟨K,0,none⟩) hK6).trans hck6) ((hb7.frozen (p:=⟨A,0,none⟩) (by show A<_;omega)).trans hfa6) ((hb7.frozen (p:=⟨K,0,none⟩) hK6).trans hfk6) (HB6.out.trans (hb7.mono (by omega))) (fun w' hb=> ?_) rfl;rw[HR.out];exact⟨by rw[hS];exact hb,rfl⟩
   |true=>
    rw[hf]at HFi HR;have HR:Hid (R= .ok P):=HR.out;clear hf;go_upto_region 11 with(go_at_call 50;(with_reducible refine HFi.out.mono ?_);rintro e W7 ⟨rfl,X7,rfl⟩)
    refine zae fun W7 hW7=> ?_;have hb7:Below W6.heap.size W6 W7:=by rw[hW7];exact bel
    have hca7:=(hb7.cell (p:=⟨A,0,none⟩) (by show A<_;omega)).trans hca6;have hck7:=(hb7.cell (p:=⟨K,0,none⟩) hK6).trans hck6;have hfa7:=(hb7.frozen (p:=⟨A,0,none⟩) (by show A<_;omega)).trans hfa6;have hfk7:=(hb7.frozen (p:=⟨K,0,none⟩) hK6).trans hfk6;have HO7:=z2c (HO6.out.below (by omega) hb7);have HP7:=z2c (HP6.out.below hb7);have HB7:=z2c (HB6.out.trans (hb7.mono (by omega)));have hl7:=hb7.size;clear hW7 hb7 hca6 hck6 hfa6 hfk6 hcs6 HO6 HP6 HB6 o0 o1 o2 o3 o4 o5 o6 o7 o8 o9;obtain⟨o0,o1,o2,o3,o4,o5,o6,o7,o8,o9,of⟩:=HO7.out;have y0:=of 0;have y1:=of 1;have y2:=of 2;have y3:=of 3;have y4:=of 4;have y5:=of 5;have y6:=of 6;have y7:=of 7;have y8:=of 8;have y9:=of 9;clear of;go_wp2_with fail
    simp only[bodyPostD];refine zt6 rfl rfl rfl (((HO7.out.store _ _ _ _ _ _ _ _ _ _).oth hAO _).oth hKO _) (zul hAK ((ze5 hAO _ _ _ _ _ _ _ _ _ _).trans hca7) ((ze5 hKO _ _ _ _ _ _ _ _ _ _).trans hck7)) ?_ rfl;rw[HR.out];have hA2:S<=A:=by omega
    have hK2:S<=K:=by omega
    have ht:=((zie (pv:=fun b=>b<=K) (O:=S+1) (zab.refl _ W7) (by show S+1<=K;omega) (.slice B0 (fN P 0) l0) (.slice B1 (fN P 1) l1) (.slice B2 (fN P 2) l2) (.slice B3 (fN P 3) l3) (.slice B4 (fN P 4) l4) (.slice B5 (fN P 5) l5) (.bool P.rel) (.int .i64 P.depth) (.int .i64 P.name) (.int .i64 P.value)).setCell (p:=⟨A,0,none⟩) (.inr (by show A<=K;omega)) (.int .i64 0)).setCell (p:=⟨K,0,none⟩) (.inr (Nat.le_refl K)) (.int .i64 0);refine⟨by rw[hS];exact((za0 (Nat.le_succ S) HB7.out _ _ _ _ _ _ _ _ _ _).setCell (p:=⟨A,0,none⟩) hA2 _).setCell (p:=⟨K,0,none⟩) hK2 _,_,rfl, ?_⟩;exact(HP7.out.turned ht).mono fun b _ hb=>by show b<=K;omega
theorem zot (s:Bs) (w:World):Calls z2f 20 #[.string ⟨s.toArray⟩] w (zcq s w):=by
 by_cases h8:8192<s.length
 ·have hp:zbb s= .error ⟨0,3⟩:=by unfold zbb;rw[if_pos h8]
  unfold zcq;rw[hp];refine(zos ⟨s.toArray⟩ w 0 3 (by decide) (fun W=> ?_)).mono fun e w' h=>⟨h.2,h.1⟩;exact(zwj ⟨s.toArray⟩ W (by show 8192<s.toArray.size;simpa using h8)).mono fun e w' ⟨h1,X,h2⟩=>⟨h1,by subst h2;exact bel⟩
 ·have h9:(⟨s.toArray⟩:ByteArray).size<=8192:=by show s.toArray.size<=_;simp;omega
  cases hl:zd2 0 s with
  |bad n=>
   have hp:zbb s= .error ⟨n,2⟩:=by unfold zbb;rw[if_neg h8,hl]
   unfold zcq;rw[hp];refine(zos ⟨s.toArray⟩ w n 2 (by decide) (fun W=> ?_)).mono fun e w' h=>⟨h.2,h.1⟩;refine(zn8 ⟨s.toArray⟩ W h9).mono fun e w' h=> ?_;rw[show zd2 0 (⟨s.toArray⟩:ByteArray).data.toList= .bad n from hl]at h;obtain⟨v,hb,he⟩:=h;exact⟨he,hb⟩
  |ok l=>exact zzz ⟨s.toArray⟩ l w h9 hl
end Go.Proofs.YtiikamobcmgekaaGreatDoor

