import Derived.Test.YtccjfanpjojbnaaGreatDoorSortAf
import Derived.Test.YtccjfanpjojbnaaGreatDoorS3
namespace Go.Proofs.YtccjfanpjojbnaaGreatDoor
open Go.Ending renaming returned→aL
open Go.IntKind renaming i64→aC
open Lib renaming cell?_alloc_some→yd,hid→aA,run_eql_slice_nil→Xh
open List renaming append_assoc→cY,getElem?_eq_getElem→eV,getElem?_eq_some_iff→gV,getElem?_set_ne→xy,length_append→aZ,length_set→mM,length_take→bZ,replicate→cX,take_of_length_le→fI
open Nat renaming le_refl→bA
open Tryz renaming prog→aE
open Go.Value renaming agg→aR,bool→aI,int→aB,pointer→aM,slice→aF,string→aD,tuple→aN
set_option maxRecDepth 1000000
set_option maxHeartbeats 16000000
open Go.RowKit
open KA
open YtccjfanpjojbnaaGreatDoor renaming Jm→Zd,Hh→Ze,yU→Z3z,aW→Z0,cP→Z2z,GR→Z4z,dK→Z1
def yG (w:World) (B g cap:Nat) (d:List aW) (a b:Nat) (w':World):Prop:=aJ (λk=>k=g) w w'/\ ∃s,dK w' B g cap (iN d a b s)/\Up cP s/\bH cP s (eQ d a b)
theorem WW (B g cap:Nat) (d:List aW) (a b N:Nat) (w:World) (h:dK w B g cap d) (hN:d.length=N) (hab:a<=b) (hb:b<=N) (hn:N<=1000000000):
  Calls aE 192 #[aF (some ⟨g,0,none⟩) N cap,aB aC a,aB aC b,(.func (.func 51) #[] #[])] w λe w'=>e=aL (aN #[])/\yG w B g cap d a b w':=JB
theorem Gm (B g cap:Nat) (d:List aW) (a m b N:Nat) (w:World) (h:dK w B g cap d) (hN:d.length=N) (ham:a<m) (hmb:m<b) (hb:b<=N) (hn:N<=1000000000) (hU1:Up cP (eQ d a m)) (hU2:Up cP (eQ d m b)):
  Calls aE 193 #[aF (some ⟨g,0,none⟩) N cap,aB aC a,aB aC m,aB aC b,(.func (.func 51) #[] #[])] w λe w'=>e=aL (aN #[])/\yG w B g cap d a b w':=JA
open YtccjfanpjojbnaaGreatDoor renaming Gm→Zg
structure GZ (w:World) (B g cap:Nat) (d:List aW) (D:List aW) (wr:World):Prop where
 turned:aJ (λk=>k=g) w wr
 row:dK wr B g cap D
 alike:bH cP D d
 len:D.length=d.length
open YtccjfanpjojbnaaGreatDoor renaming GZ→Zf
theorem GZ.seg {w:World} {B g cap:Nat} {d D:List aW} {wr w':World} {a b:Nat} (h:GZ w B g cap d D wr) (hs:yG wr B g cap D a b w') (hab:a<=b) (hb:b<=d.length):
  ∃s,GZ w B g cap d (iN D a b s) w'/\Up cP s/\s.length=b-a:=JN
def OG (w:World) (B g cap:Nat) (d:List aW) (w':World):Prop:=aJ (λk=>k=g) w w'/\ ∃S,dK w' B g cap S/\Up cP S/\bH cP S d
theorem U0 (B g cap:Nat) (d:List aW) (w:World) (h:dK w B g cap d) (hn:d.length<=1000000000):
  Calls aE 156 #[aF (some ⟨g,0,none⟩) d.length cap,aB aC d.length,(.func (.func 51) #[] #[])] w λe w'=>e=aL (aN #[])/\OG w B g cap d w':=JM
open YtccjfanpjojbnaaGreatDoor renaming U0→Zj
theorem Jq (A:Option Addr) (cap:Nat) (w:World):
  Calls aE 192 #[aF A 0 cap,aB aC 0,aB aC 0,(.func (.func 51) #[] #[])] w λe w'=>e=aL (aN #[])/\w=w':=JL
open YtccjfanpjojbnaaGreatDoor renaming Jq→Zh
theorem T8 (A:Option Addr) (cap:Nat) (w:World):
  Calls aE 156 #[aF A 0 cap,aB aC 0,(.func (.func 51) #[] #[])] w λe w'=>e=aL (aN #[])/\w=w':=JK
open YtccjfanpjojbnaaGreatDoor renaming T8→Zi
theorem a8 (A:Option Addr) (cap:Nat) (w:World):
  Calls aE 99 #[aF A 0 cap,(.func (.func 51) #[] #[])] w λe w'=>e=aL (aN #[])/\w=w':=JJ
open YtccjfanpjojbnaaGreatDoor renaming a8→Zr
theorem g6 (B g cap:Nat) (d:List aW) (w:World) (h:dK w B g cap d) (hn:d.length<=1000000000):
  Calls aE 99 #[aF (some ⟨g,0,none⟩) d.length cap,(.func (.func 51) #[] #[])] w λe w'=>e=aL (aN #[])/\OG w B g cap d w':=JI
open YtccjfanpjojbnaaGreatDoor renaming g6→Zu
theorem RV:jX aE 45 65 (aR #[aD ⟨#[]⟩,aD ⟨#[]⟩]) 2 32:=⟨by kernel_rfl,by kernel_rfl,by kernel_rfl,by decide⟩
theorem Qk (d:List aW): ∀u∈d.flatMap aW.cells,u.oneCell'=true:=by
 intro u hu;obtain⟨x,_,hx⟩:=List.mem_flatMap.1 hu;simp only[aW.cells,List.mem_cons,List.not_mem_nil,or_false]at hx;rcases hx with rfl|rfl<;>rfl
open YtccjfanpjojbnaaGreatDoor renaming Qk→Zk
theorem Pw (n c:Nat) (w:World):Calls aE 98 #[aF none n c] w λe w'=>e=aL (aF none 0 0)/\w=w':=JH
open YtccjfanpjojbnaaGreatDoor renaming Pw→Zq
theorem Pz (ad:Addr) (c:Nat) (d:List aW) (w:World) (h:Rd w (aF (some ad) d.length c) d.length 2 (d.flatMap aW.cells)) (hn:d.length<=1000000000):
  Calls aE 98 #[aF (some ad) d.length c] w λe w'=> ∃v',e=aL v'/\w'.ownsRow w.heap.size 65 2 v' d.length (d.flatMap aW.cells)/\Below w.heap.size w w':=JG
open YtccjfanpjojbnaaGreatDoor renaming Pz→Zt
theorem SL (b:Nat) (x y:aW) (W:World) (hc:W.cell? ⟨b,0,none⟩=some (.func (.func 51) #[] #[])):Calls aE 101 #[(x).agg,(y).agg,aM (some ⟨b,0,none⟩)] W (aH (aI (jL (x).key (y).key==0)) W):=JF
theorem Pf (A:Option Addr) (cap:Nat) (f:Value) (w:World):Calls aE 100 #[aF A 0 cap,f] w λe w'=>e=aL (aF A 0 cap)/\w=w':=by
 have hmx:=bX;go_enter Tryz.func100,Tryz.ntmps100;go_wp2_with fail
 go_ret;exact⟨rfl,rfl⟩
open YtccjfanpjojbnaaGreatDoor renaming Pf→Zs
def wL (y x:aW):Bool:=jL y.key x.key==0
open YtccjfanpjojbnaaGreatDoor renaming wL→Zl
def C1 (w:World) (B g cap:Nat) (d:List aW) (w':World):Prop:=aJ (λk=>k=g) w w'/\ ∃E,dK w' B g cap E/\E.length=d.length/\E.take (kY wL d).length=kY wL d
open YtccjfanpjojbnaaGreatDoor renaming C1→Zm
theorem Ah (w:World) (t e ty:TypeId) (z s:Value) (m:Nat) (ht:aE.underlying t=some (.slice e)) (hv: ∀w,(zeroValue e).run aE w= .ok z w) (hz:z.cells=Array.replicate m s) (hm:0<m) (h1:s.oneCell'=true) (b o n c:Nat) (hn:0<n)
  (hc: ∀j,j<n*m->(w.cell? ⟨b,o+j,none⟩).isSome=true) (hf: ∀j,j<n*m->w.frozen? ⟨b,o+j,none⟩=false):
  (Builtin.clear_ #[t] ty #[aF (some ⟨b,o,none⟩) n c]).run aE w= .ok (aN #[]) (w.setCells b o (cX (n*m) s)):=by
 have hzc:(Builtin.zeroCells z.cells n).toList=cX (n*m) s:=by
  rw[hz];simp only[Builtin.zeroCells];apply List.ext_getElem
  .simp
  .intro i h1 h2;have hlt:=Nat.mod_lt i hm;simp;rw[getElem!_pos _ _ (by simpa using hlt)];simp
 have hst:=run_storeCells_cells (P:=aE) b o (cX (n*m) s) 0 w (by simpa using hc) (by simpa using hf) (by intro v hv';rw[List.eq_of_mem_replicate hv'];exact h1);simp only[Nat.add_zero]at hst;obtain⟨k,rfl⟩: ∃k,n=k+1:=⟨n-1,by omega⟩;simp[Builtin.clear_,run_underlying ht,hv,hzc,hst]
theorem l6 (W:World) (g o n:Nat) (s:Value):W.setCells g (o*2) (cX ((n+1)*2) s)=((W.setCell ⟨g,o*2,none⟩ s).setCell ⟨g,o*2+1,none⟩ s).setCells g ((o+1)*2) (cX (n*2) s):=by
 rw[show(n+1)*2=n*2+2 by omega,show(o+1)*2=o*2+2 by omega];rfl
theorem dK.clear {B g cap:Nat}: ∀(n o:Nat) (E:List aW) (W:World),dK W B g cap E->o+n<=E.length->
  ∃E',dK (W.setCells g (o*2) (cX (n*2) (sv []))) B g cap E'/\E'.length=E.length/\E'.take o=E.take o/\aJ (λk=>k=g) W (W.setCells g (o*2) (cX (n*2) (sv []))):=by
 intro n;induction n with
 |zero=>intro o E W h _;exact⟨E,(by rw[Nat.zero_mul];exact h),rfl,rfl,(by rw[Nat.zero_mul];exact aJ.refl _ _)⟩
 |succ n ih=>
  intro o E W h ho;obtain⟨E',h1,h2,h3,h4⟩:=ih (o+1) (E.set o (⟨[],[]⟩:aW)) _ (h.set o om (⟨[],[]⟩:aW)) (by rw[mM];omega);rw[l6];refine⟨E',h1,by rw[h2,mM], ?_,(((aJ.refl (λk=>k=g) W).setCell (p:=⟨g,o*2,none⟩) (.inr rfl) (sv [])).setCell (p:=⟨g,o*2+1,none⟩) (.inr rfl) (sv [])).trans h4⟩;have h5:=congrArg (List.take o) h3;rw[List.take_take,List.take_take,Nat.min_eq_left om,List.take_set_of_le (bA _)]at h5;exact h5
theorem C6 (w:World):(zeroValue 65).run aE w= .ok (aR #[aD ⟨#[]⟩,aD ⟨#[]⟩]) w:=by kernel_rfl
theorem Ph (B g cap b:Nat) (d:List aW) (w:World) (h:dK w B g cap d) (hc:w.cell? ⟨b,0,none⟩=some (.func (.func 51) #[] #[])) (hbg:b≠g) (hn:d.length<=1000000000):
  Calls aE 100 #[aF (some ⟨g,0,none⟩) d.length cap,.func (.func 101) #[] #[aM (some ⟨b,0,none⟩)]] w
   λe w'=>e=aL (aF (some ⟨g,0,none⟩) (kY wL d).length cap)/\C1 w B g cap d w':=JE
open YtccjfanpjojbnaaGreatDoor renaming Ph→Zo
theorem Nc:wL=ev cP:=by
 funext y x;have h1:=YY y.key x.key;have h2:ev cP y x=ev oT y.key x.key:=rfl;have h3:ev oT y.key x.key=decide (y.key=x.key):=XZ _ _;unfold wL;rw[h2,h3,<-h1,Bool.eq_iff_iff];simp
open YtccjfanpjojbnaaGreatDoor renaming Nc→Zn
theorem Aq {W:World} {B g cap:Nat} {E:List aW} (h:dK W B g cap E) (m:Nat) (hm:m<=E.length):Rd W (aF (some ⟨g,0,none⟩) m cap) m 2 ((E.take m).flatMap aW.cells):=by
 have h1:=Rd.part (Rd.own h) m hm;rw[XN aW.cells 2 (λ_=>rfl)]at h1;exact h1
open YtccjfanpjojbnaaGreatDoor renaming Aq→Zp
theorem Y6 (B g cap b:Nat) (d:List aW) (W W':World) (hs:OG W B g cap d W') (hc:W'.cell? ⟨b,0,none⟩=some (.func (.func 51) #[] #[])) (hbg:b≠g) (hn:d.length<=1000000000):
  Calls aE 100 #[aF (some ⟨g,0,none⟩) d.length cap,.func (.func 101) #[] #[aM (some ⟨b,0,none⟩)]] W'
   λe w'=>e=aL (aF (some ⟨g,0,none⟩) (bS cP d).length cap)/\aJ (λk=>k=g) W' w'/\Rd w' (aF (some ⟨g,0,none⟩) (bS cP d).length cap) (bS cP d).length 2 ((bS cP d).flatMap aW.cells):=JD
open YtccjfanpjojbnaaGreatDoor renaming Y6→Zv
theorem UZ (A:Option Addr) (c:Nat) (d:List aW) (w:World) (h:Rd w (aF A d.length c) d.length 2 ((d).flatMap aW.cells)) (hn:d.length<=1000000000):
  Calls aE 50 #[aF A d.length c,(.func (.func 51) #[] #[])] w (rO w (bS cP d).length 2 ((bS cP d).flatMap aW.cells)):=JC
