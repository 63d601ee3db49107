/- The walk of the reference's Parse. -/
import Derived.BigRegion
import Derived.Test.YtbhhgbgfaemfdaaGreatDoorRfF
import Derived.Test.YtbhhgbgfaemfdaaGreatDoorWN
import Derived.Test.YtbhhgbgfaemfdaaGreatDoorLexK
namespace Go.Proofs.YtbhhgbgfaemfdaaGreatDoor
open List renaming length_drop→z2p
open Go.RowKit
attribute [local go_sem] Oper.semAt_some
theorem zsr (s:ByteArray) (w:World) (hm:8192<s.size):Calls Tryz.prog 92 #[.string s] w (Ret (.tuple #[.slice none 0 0,.int .i64 0,.int .i64 3]) w):=by
 have h8:decide ((8192:Int)<s.size)=true:=by simp;omega
 clear hm
 go_enter Tryz.func92,Tryz.ntmps92
 go_wp2
 go_ret3
 exact Ret.of rfl bel
theorem RPar.start {W V:World} {en base:Nat} {A:Option Addr} {n c:Nat} {l:List Lx} {e:TypeId} (hn:n=l.length) (ho:W.ownsRow base 116 3 (.slice A n c) n (zba l)) (hc:n<=c)
  (hV:V=W.alloc (.cells #[.slice none 0 0,.slice none 0 0,.slice none 0 0,.slice none 0 0,.slice none 0 0,.slice none 0 0,.bool false,.int .i64 64,.int .i64 32,.int .i64 1024,.slice none 0 0,.slice A n c,.int .i64 en] e)):
  RPar en W.heap.size ⟨l,pol0,[]⟩ V:=by
 subst hn
 have hb:Below W.heap.size W V:=by rw[hV];exact bel
 have hr:Rx W (fun b=>W.heap.size<=b) (.slice A l.length c) l.length 3 (zba l):=Rx.ofOwn ho (fun b hb=>by have:=(ho.lt b hb).2;omega)
 have hnil: ∀j,j<7->V.cell? ⟨W.heap.size,rC j,none⟩=some (.slice none 0 0):=fun j hj=>by
  rcases(by omega:j=0\/j=1\/j=2\/j=3\/j=4\/j=5\/j=6)with rfl|rfl|rfl|rfl|rfl|rfl|rfl<;>(rw[hV];simp[go_sem,rC])
 refine⟨⟨A,c,by rw[hV];simp[go_sem],hc,hr.below hb⟩,by rw[hV];simp[go_sem],fun j=>by rw[hV];simp[go_sem],fun j hj=>⟨_,hnil j hj, ?_⟩,fun i j v u b hi hj _ hv _ hb=> ?_,by rw[hV];simp[go_sem,pol0],by rw[hV];simp[go_sem,pol0],by rw[hV];simp[go_sem,pol0],by rw[hV];simp[go_sem,pol0]⟩
 ·rcases(by omega:j=0\/j=1\/j=2\/j=3\/j=4\/j=5\/j=6)with rfl|rfl|rfl|rfl|rfl|rfl|rfl<;>exact World.ownsRow_nil _ _ _ _
 ·rw[hnil i hi]at hv
  cases hv
  cases hb
theorem RPar.polV {en B:Nat} {s:Ps} {W:World} (h:RPar en B s W) {v0 v1 v2 v3 v4 v5:Value} (c0:W.cell? ⟨B,0,none⟩=some v0) (c1:W.cell? ⟨B,1,none⟩=some v1) (c2:W.cell? ⟨B,2,none⟩=some v2) (c3:W.cell? ⟨B,3,none⟩=some v3) (c4:W.cell? ⟨B,4,none⟩=some v4) (c5:W.cell? ⟨B,5,none⟩=some v5):
  PolV W (fun _=>False) (.agg #[v0,v1,v2,v3,v4,v5,.bool s.pol.rel,.int .i64 s.pol.depth,.int .i64 s.pol.name,.int .i64 s.pol.value]) s.pol:=by
 have key: ∀j v,j<6->W.cell? ⟨B,j,none⟩=some v->Rx W (fun _=>False) v (fN s.pol j) (fS j) (fC s.pol j):=fun j v hj hv=>by
  obtain⟨u,hu,ho⟩:=h.row j (by omega)
  have e1:rC j=j:=by unfold rC;rw[if_neg (by omega)]
  have e2:rS j=fS j:=by unfold rS;rw[if_neg (by omega)]
  have e3:rN s j=fN s.pol j:=by unfold rN;rw[if_neg (by omega)]
  have e4:rX s j=fC s.pol j:=by unfold rX;rw[if_neg (by omega)]
  rw[e1,hv]at hu
  cases hu
  rw[e2,e3,e4]at ho
  exact Rx.ofOwn ho (fun _ _ hx=>hx)
 exact⟨v0,v1,v2,v3,v4,v5,rfl,key 0 v0 (by omega) c0,key 1 v1 (by omega) c1,key 2 v2 (by omega) c2,key 3 v3 (by omega) c3,key 4 v4 (by omega) c4,key 5 v5 (by omega) c5⟩
theorem zeu (en B:Nat) (k:Bs) (hk:k∈zeo) (s:Ps) (W:World) (h:RPar en B s W) (hs:PsSm s):
  Calls Tryz.prog 93 #[.pointer (some ⟨B,0,none⟩),.string ⟨k.toArray⟩] W (zcy en B s W (nmR k s.rest s.pol)):=
 zr3 (P:=fun k=>Calls Tryz.prog 93 #[.pointer (some ⟨B,0,none⟩),.string ⟨k.toArray⟩] W (zcy en B s W (nmR k s.rest s.pol))) (zpw en B s W h hs) (zpv en B s W h hs) (zpu en B s W h hs) (zpt en B s W h hs) (zps en B s W h hs) k hk
theorem zgf (en B:Nat) (k:Bs) (hk:k∈zdp) (s:Ps) (W:World) (h:RPar en B s W) (hs:PsSm s) (hnum: ∀x∈s.rest,x.kind=2->x.text.all digB=true/\x.text.length<=9):
  Calls Tryz.prog 95 #[.pointer (some ⟨B,0,none⟩),.string ⟨k.toArray⟩] W (zdv en B s W (sgR k s.rest s.pol s.told)):=
 zm9 (P:=fun k=>Calls Tryz.prog 95 #[.pointer (some ⟨B,0,none⟩),.string ⟨k.toArray⟩] W (zdv en B s W (sgR k s.rest s.pol s.told))) (zpm en B s W h hs) (zl8 en B s W h hs) (zl7 en B s W h hs hnum) k hk
theorem isR_lt {l:List Lx} {i k:Nat} {ts:Bs} (h:isR l i k ts=true):i<l.length:=by
 unfold isR at h
 rcases Nat.lt_or_ge i l.length with h1|h1
 ·exact h1
 ·rw[List.drop_eq_nil_of_le h1]at h
  cases h
theorem zoe {k:Bs} {l:List Lx} {p q:Pol} {n:Nat} (h:nmR k l p= .ok (n,q)):1<=n/\n<=l.length:=by
 unfold nmR at h
 split at h
 ·cases h
 ·split at h
  ·cases h
  ·next ws hw=>
   cases h
   unfold zbn at hw
   split at hw
   ·cases hw
   ·next h9=>
    cases hw
    have h8:=isR_lt (eq_true_of_ne_false (fun e=>h9 (.inr e)))
    omega
theorem zvp {k:Bs} {l:List Lx} {p q:Pol} {told told':List Bs} {n:Nat} (h:sgR k l p told= .ok (n,q,told')):1<=n/\n<=l.length:=by
 unfold sgR at h
 split at h
 ·split at h
  ·cases h
  ·split at h
   ·cases h
   ·next hw=>
    have h9:=(zcp [] [1] 1 hw).1
    split at h<;>cases h
    simp at h9;omega
 ·split at h
  ·split at h
   ·cases h
   ·next hw=>
    have h9:=(zcp [] [1,1,3] 1 hw).1
    split at h<;>cases h
    simp at h9;omega
  ·split at h
   ·cases h
   ·split at h
    ·cases h
    ·next hw=>
     have h9:=(zcp [] [1,2] 1 hw).1
     split at h
     ·cases h
     ·split at h<;>cases h
      simp at h9;omega
def rLen (B:Nat) (W:World):Nat:=match W.cell? ⟨B,11,none⟩with
 |some (.slice _ n _)=>n
 |_=>0
theorem RPar.len {en B:Nat} {s:Ps} {W:World} (h:RPar en B s W):rLen B W=s.rest.length:=by
 obtain⟨A,c,hc,_⟩:=h.rest
 unfold rLen;rw[hc]
theorem z1y (l:List Lx) (n:Nat):zba (l.drop n)=(zba l).drop (n*3):=by
 induction n generalizing l with
 |zero=>simp
 |succ n ih=>
  cases l with
  |nil=>simp[zba]
  |cons x r=>
   rw[List.drop_succ_cons,ih r]
   have:zba (x::r)=x.cells++zba r:=rfl
   rw[this,show(n+1)*3=x.cells.length+n*3 by simp[Lx.cells];omega,List.drop_append,List.drop_of_length_le (show x.cells.length<=x.cells.length+n*3 by omega),List.nil_append,Nat.add_sub_cancel_left]
theorem Rd.lxdrop {W:World} {b off N c n:Nat} {l:List Lx} (h:Rd W (.slice (some ⟨b,off,none⟩) N c) l.length 3 (zba l)) (hN:N=l.length) (hn:n<=l.length) (hl:1<=l.length):Rd W (.slice (some ⟨b,off+n*3,none⟩) (N-n) (c-n)) (l.drop n).length 3 (zba (l.drop n)):=by
 subst hN
 obtain⟨_,h2,A',c',e,h4⟩:=h
 cases e
 refine⟨zjv _,by rw[z2p];omega,_,_,by rw[z2p],fun h0=> ?_⟩
 obtain⟨b2,off2,h5,hb,hc⟩:=h4 (by omega)
 cases h5
 refine⟨b,off+n*3,rfl,hb,fun j u hu=> ?_⟩
 rw[z1y,List.getElem?_drop]at hu
 have h9:=hc (n*3+j) u hu
 rw[show off+n*3+j=off+(n*3+j) by omega]
 exact h9
theorem RPar.cut {en B n:Nat} {s:Ps} {W:World} (h:RPar en B s W) (hn:n<=s.rest.length) (hl:1<=s.rest.length): ∃b o c,W.cell? ⟨B,11,none⟩=some (.slice (some ⟨b,o,none⟩) s.rest.length c)/\s.rest.length<=c/\
  (c=n->RPar en B ⟨s.rest.drop n,s.pol,s.told⟩ (W.setCell ⟨B,11,none⟩ (.slice (some ⟨b,o,none⟩) 0 0))/\Below B W (W.setCell ⟨B,11,none⟩ (.slice (some ⟨b,o,none⟩) 0 0)))/\
  (RPar en B ⟨s.rest.drop n,s.pol,s.told⟩ (W.setCell ⟨B,11,none⟩ (.slice (some ⟨b,o+n*3,none⟩) (s.rest.length-n) (c-n)))/\Below B W (W.setCell ⟨B,11,none⟩ (.slice (some ⟨b,o+n*3,none⟩) (s.rest.length-n) (c-n)))):=by
 obtain⟨A,c,hc,hcl,A',c',he,_,hr,hbad⟩:=h.rest
 cases he
 obtain⟨b,o,rfl,_⟩:=Rd.lxAt hr 0 (by omega)
 have hbl:=hbad (by omega) b o none rfl
 refine⟨b,o,c,hc,hcl,fun hcn=> ?_, ?_⟩
 ·have hz:s.rest.drop n=[]:=List.drop_eq_nil_of_le (by omega)
  refine h.setOne (i:=11) (s':=⟨s.rest.drop n,s.pol,s.told⟩) (.inr rfl) hc (fun j _=>⟨rfl,rfl⟩) (show ∃A c,_/\_/\_ from ?_) rfl rfl rfl rfl
  rw[hz]
  exact⟨some ⟨b,o,none⟩,0,rfl,Nat.le_refl _,some ⟨b,o,none⟩,0,rfl,⟨fun e=>(by cases e),Nat.le_refl _⟩,Rd.empty,fun h0=>absurd h0 (Nat.lt_irrefl 0)⟩
 ·refine h.setOne (i:=11) (s':=⟨s.rest.drop n,s.pol,s.told⟩) (.inr rfl) hc (fun j _=>⟨rfl,rfl⟩) (show ∃A c,_/\_/\_ from ?_) rfl rfl rfl rfl
  have h9:=Rd.lxdrop hr rfl hn hl
  exact⟨some ⟨b,o+n*3,none⟩,c-n,by rw[z2p],by rw[z2p];omega,some ⟨b,o+n*3,none⟩,c-n,by rw[z2p],⟨fun e=>(by cases e),by show(s.rest.drop n).length<=c-n;rw[z2p];omega⟩,h9,fun _ b' o' s' he=>(by cases he;exact hbl)⟩
theorem rres {W:World} {tmps:Array Value} {O:Nat} {a k:Int} {u0 u1 u2 u3 u4 u5 u6 u7 u8 u9:Value} (h2:tmps.getD 2 undef= .pointer (some ⟨O,0,none⟩)) (h3:tmps.getD 3 undef= .int .i64 a) (h4:tmps.getD 4 undef= .int .i64 k)
  (hO:OutC W O u0 u1 u2 u3 u4 u5 u6 u7 u8 u9):
  (results Tryz.f52 tmps).run Tryz.prog W= .ok (.tuple #[.agg #[u0,u1,u2,u3,u4,u5,u6,u7,u8,u9],.int .i64 a,.int .i64 k]) W:=by
 obtain⟨c0,c1,c2,c3,c4,c5,c6,c7,c8,c9,fz⟩:=hO
 simp only[Array.getD_eq_getD_getElem?]at h2 h3 h4
 simp[results,Tryz.results52,go_sem,h2,h3,h4,c0,c1,c2,c3,c4,c5,c6,c7,c8,c9]
end Go.Proofs.YtbhhgbgfaemfdaaGreatDoor

