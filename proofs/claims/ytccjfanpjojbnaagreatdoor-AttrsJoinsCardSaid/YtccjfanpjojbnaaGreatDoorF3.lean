import Derived.Test.YtccjfanpjojbnaaGreatDoorSortFf
import Derived.Test.YtccjfanpjojbnaaGreatDoorS3
namespace Go.Proofs.YtccjfanpjojbnaaGreatDoor
open Go.Ending renaming returned→aL
open Go.IntKind renaming i64→aC
open Lib renaming cell?_alloc_some→yd,hid→aA,run_eql_slice_nil→Xh
open List renaming append_assoc→cY,getElem?_eq_getElem→eV,getElem?_eq_some_iff→gV,getElem?_set_ne→xy,length_append→aZ,length_set→mM,length_take→bZ,replicate→cX,take_of_length_le→fI
open Nat renaming le_refl→bA
open Tryz renaming prog→aE
open Go.Value renaming agg→aR,bool→aI,int→aB,pointer→aM,slice→aF,string→aD,tuple→aN
set_option maxRecDepth 1000000
set_option maxHeartbeats 16000000
open Go.RowKit
open KF
open YtccjfanpjojbnaaGreatDoor renaming Jl→Zd,Hg→Ze,vN→Z3z,aS→Z0,cG→Z2z,FW→Z4z,dJ→Z1
def yF (w:World) (B g cap:Nat) (d:List aS) (a b:Nat) (w':World):Prop:=aJ (λk=>k=g) w w'/\ ∃s,dJ w' B g cap (iN d a b s)/\Up cG s/\bH cG s (eQ d a b)
theorem WV (B g cap:Nat) (d:List aS) (a b N:Nat) (w:World) (h:dJ w B g cap d) (hN:d.length=N) (hab:a<=b) (hb:b<=N) (hn:N<=1000000000):
  Calls aE 194 #[aF (some ⟨g,0,none⟩) N cap,aB aC a,aB aC b,(.func (.func 53) #[] #[])] w λe w'=>e=aL (aN #[])/\yF w B g cap d a b w':=JB
theorem Gl (B g cap:Nat) (d:List aS) (a m b N:Nat) (w:World) (h:dJ w B g cap d) (hN:d.length=N) (ham:a<m) (hmb:m<b) (hb:b<=N) (hn:N<=1000000000) (hU1:Up cG (eQ d a m)) (hU2:Up cG (eQ d m b)):
  Calls aE 195 #[aF (some ⟨g,0,none⟩) N cap,aB aC a,aB aC m,aB aC b,(.func (.func 53) #[] #[])] w λe w'=>e=aL (aN #[])/\yF w B g cap d a b w':=JA
open YtccjfanpjojbnaaGreatDoor renaming Gl→Zg
structure GY (w:World) (B g cap:Nat) (d:List aS) (D:List aS) (wr:World):Prop where
 turned:aJ (λk=>k=g) w wr
 row:dJ wr B g cap D
 alike:bH cG D d
 len:D.length=d.length
open YtccjfanpjojbnaaGreatDoor renaming GY→Zf
theorem GY.seg {w:World} {B g cap:Nat} {d D:List aS} {wr w':World} {a b:Nat} (h:GY w B g cap d D wr) (hs:yF wr B g cap D a b w') (hab:a<=b) (hb:b<=d.length):
  ∃s,GY w B g cap d (iN D a b s) w'/\Up cG s/\s.length=b-a:=JN
def OF (w:World) (B g cap:Nat) (d:List aS) (w':World):Prop:=aJ (λk=>k=g) w w'/\ ∃S,dJ w' B g cap S/\Up cG S/\bH cG S d
theorem T9 (B g cap:Nat) (d:List aS) (w:World) (h:dJ w B g cap d) (hn:d.length<=1000000000):
  Calls aE 157 #[aF (some ⟨g,0,none⟩) d.length cap,aB aC d.length,(.func (.func 53) #[] #[])] w λe w'=>e=aL (aN #[])/\OF w B g cap d w':=JM
open YtccjfanpjojbnaaGreatDoor renaming T9→Zj
theorem Jp (A:Option Addr) (cap:Nat) (w:World):
  Calls aE 194 #[aF A 0 cap,aB aC 0,aB aC 0,(.func (.func 53) #[] #[])] w λe w'=>e=aL (aN #[])/\w=w':=JL
open YtccjfanpjojbnaaGreatDoor renaming Jp→Zh
theorem T7 (A:Option Addr) (cap:Nat) (w:World):
  Calls aE 157 #[aF A 0 cap,aB aC 0,(.func (.func 53) #[] #[])] w λe w'=>e=aL (aN #[])/\w=w':=JK
open YtccjfanpjojbnaaGreatDoor renaming T7→Zi
theorem Y9 (A:Option Addr) (cap:Nat) (w:World):
  Calls aE 104 #[aF A 0 cap,(.func (.func 53) #[] #[])] w λe w'=>e=aL (aN #[])/\w=w':=JJ
open YtccjfanpjojbnaaGreatDoor renaming Y9→Zr
theorem b8 (B g cap:Nat) (d:List aS) (w:World) (h:dJ w B g cap d) (hn:d.length<=1000000000):
  Calls aE 104 #[aF (some ⟨g,0,none⟩) d.length cap,(.func (.func 53) #[] #[])] w λe w'=>e=aL (aN #[])/\OF w B g cap d w':=JI
open YtccjfanpjojbnaaGreatDoor renaming b8→Zu
theorem RU:jX aE 46 81 (aR #[aD ⟨#[]⟩,aD ⟨#[]⟩,aD ⟨#[]⟩]) 3 48:=⟨by kernel_rfl,by kernel_rfl,by kernel_rfl,by decide⟩
theorem Qj (d:List aS): ∀u∈d.flatMap aS.cells,u.oneCell'=true:=by
 intro u hu;obtain⟨x,_,hx⟩:=List.mem_flatMap.1 hu;simp only[aS.cells,List.mem_cons,List.not_mem_nil,or_false]at hx;rcases hx with rfl|rfl|rfl<;>rfl
open YtccjfanpjojbnaaGreatDoor renaming Qj→Zk
theorem Pv (n c:Nat) (w:World):Calls aE 103 #[aF none n c] w λe w'=>e=aL (aF none 0 0)/\w=w':=JH
open YtccjfanpjojbnaaGreatDoor renaming Pv→Zq
theorem Py (ad:Addr) (c:Nat) (d:List aS) (w:World) (h:Rd w (aF (some ad) d.length c) d.length 3 (d.flatMap aS.cells)) (hn:d.length<=1000000000):
  Calls aE 103 #[aF (some ad) d.length c] w λe w'=> ∃v',e=aL v'/\w'.ownsRow w.heap.size 81 3 v' d.length (d.flatMap aS.cells)/\Below w.heap.size w w':=JG
open YtccjfanpjojbnaaGreatDoor renaming Py→Zt
theorem SK (b:Nat) (x y:aS) (W:World) (hc:W.cell? ⟨b,0,none⟩=some (.func (.func 53) #[] #[])):Calls aE 106 #[(x).agg,(y).agg,aM (some ⟨b,0,none⟩)] W (aH (aI (jL (x).key (y).key==0)) W):=JF
theorem Pe (A:Option Addr) (cap:Nat) (f:Value) (w:World):Calls aE 105 #[aF A 0 cap,f] w λe w'=>e=aL (aF A 0 cap)/\w=w':=by
 have hmx:=bX;go_enter Tryz.func105,Tryz.ntmps105;go_wp2_with fail
 go_ret;exact⟨rfl,rfl⟩
open YtccjfanpjojbnaaGreatDoor renaming Pe→Zs
def wK (y x:aS):Bool:=jL y.key x.key==0
open YtccjfanpjojbnaaGreatDoor renaming wK→Zl
def B9 (w:World) (B g cap:Nat) (d:List aS) (w':World):Prop:=aJ (λk=>k=g) w w'/\ ∃E,dJ w' B g cap E/\E.length=d.length/\E.take (kY wK d).length=kY wK d
open YtccjfanpjojbnaaGreatDoor renaming B9→Zm
theorem Ag (w:World) (t e ty:TypeId) (z s:Value) (m:Nat) (ht:aE.underlying t=some (.slice e)) (hv: ∀w,(zeroValue e).run aE w= .ok z w) (hz:z.cells=Array.replicate m s) (hm:0<m) (h1:s.oneCell'=true) (b o n c:Nat) (hn:0<n)
  (hc: ∀j,j<n*m->(w.cell? ⟨b,o+j,none⟩).isSome=true) (hf: ∀j,j<n*m->w.frozen? ⟨b,o+j,none⟩=false):
  (Builtin.clear_ #[t] ty #[aF (some ⟨b,o,none⟩) n c]).run aE w= .ok (aN #[]) (w.setCells b o (cX (n*m) s)):=by
 have hzc:(Builtin.zeroCells z.cells n).toList=cX (n*m) s:=by
  rw[hz];simp only[Builtin.zeroCells];apply List.ext_getElem
  .simp
  .intro i h1 h2;have hlt:=Nat.mod_lt i hm;simp;rw[getElem!_pos _ _ (by simpa using hlt)];simp
 have hst:=run_storeCells_cells (P:=aE) b o (cX (n*m) s) 0 w (by simpa using hc) (by simpa using hf) (by intro v hv';rw[List.eq_of_mem_replicate hv'];exact h1);simp only[Nat.add_zero]at hst;obtain⟨k,rfl⟩: ∃k,n=k+1:=⟨n-1,by omega⟩;simp[Builtin.clear_,run_underlying ht,hv,hzc,hst]
theorem k9 (W:World) (g o n:Nat) (s:Value):W.setCells g (o*3) (cX ((n+1)*3) s)=(((W.setCell ⟨g,o*3,none⟩ s).setCell ⟨g,o*3+1,none⟩ s).setCell ⟨g,o*3+2,none⟩ s).setCells g ((o+1)*3) (cX (n*3) s):=by
 rw[show(n+1)*3=n*3+3 by omega,show(o+1)*3=o*3+3 by omega];rfl
theorem dJ.clear {B g cap:Nat}: ∀(n o:Nat) (E:List aS) (W:World),dJ W B g cap E->o+n<=E.length->
  ∃E',dJ (W.setCells g (o*3) (cX (n*3) (sv []))) B g cap E'/\E'.length=E.length/\E'.take o=E.take o/\aJ (λk=>k=g) W (W.setCells g (o*3) (cX (n*3) (sv []))):=by
 intro n;induction n with
 |zero=>intro o E W h _;exact⟨E,(by rw[Nat.zero_mul];exact h),rfl,rfl,(by rw[Nat.zero_mul];exact aJ.refl _ _)⟩
 |succ n ih=>
  intro o E W h ho;obtain⟨E',h1,h2,h3,h4⟩:=ih (o+1) (E.set o (⟨[],[],[]⟩:aS)) _ (h.set o om (⟨[],[],[]⟩:aS)) (by rw[mM];omega);rw[k9];refine⟨E',h1,by rw[h2,mM], ?_,((((aJ.refl (λk=>k=g) W).setCell (p:=⟨g,o*3,none⟩) (.inr rfl) (sv [])).setCell (p:=⟨g,o*3+1,none⟩) (.inr rfl) (sv [])).setCell (p:=⟨g,o*3+2,none⟩) (.inr rfl) (sv [])).trans h4⟩;have h5:=congrArg (List.take o) h3;rw[List.take_take,List.take_take,Nat.min_eq_left om,List.take_set_of_le (bA _)]at h5;exact h5
theorem C5 (w:World):(zeroValue 81).run aE w= .ok (aR #[aD ⟨#[]⟩,aD ⟨#[]⟩,aD ⟨#[]⟩]) w:=by kernel_rfl
theorem Pg (B g cap b:Nat) (d:List aS) (w:World) (h:dJ w B g cap d) (hc:w.cell? ⟨b,0,none⟩=some (.func (.func 53) #[] #[])) (hbg:b≠g) (hn:d.length<=1000000000):
  Calls aE 105 #[aF (some ⟨g,0,none⟩) d.length cap,.func (.func 106) #[] #[aM (some ⟨b,0,none⟩)]] w
   λe w'=>e=aL (aF (some ⟨g,0,none⟩) (kY wK d).length cap)/\B9 w B g cap d w':=JE
open YtccjfanpjojbnaaGreatDoor renaming Pg→Zo
theorem Nb:wK=ev cG:=by
 funext y x;have h1:=YY y.key x.key;have h2:ev cG y x=ev oT y.key x.key:=rfl;have h3:ev oT y.key x.key=decide (y.key=x.key):=XZ _ _;unfold wK;rw[h2,h3,<-h1,Bool.eq_iff_iff];simp
open YtccjfanpjojbnaaGreatDoor renaming Nb→Zn
theorem Ap {W:World} {B g cap:Nat} {E:List aS} (h:dJ W B g cap E) (m:Nat) (hm:m<=E.length):Rd W (aF (some ⟨g,0,none⟩) m cap) m 3 ((E.take m).flatMap aS.cells):=by
 have h1:=Rd.part (Rd.own h) m hm;rw[XN aS.cells 3 (λ_=>rfl)]at h1;exact h1
open YtccjfanpjojbnaaGreatDoor renaming Ap→Zp
theorem Y0 (B g cap b:Nat) (d:List aS) (W W':World) (hs:OF W B g cap d W') (hc:W'.cell? ⟨b,0,none⟩=some (.func (.func 53) #[] #[])) (hbg:b≠g) (hn:d.length<=1000000000):
  Calls aE 105 #[aF (some ⟨g,0,none⟩) d.length cap,.func (.func 106) #[] #[aM (some ⟨b,0,none⟩)]] W'
   λe w'=>e=aL (aF (some ⟨g,0,none⟩) (bS cG d).length cap)/\aJ (λk=>k=g) W' w'/\Rd w' (aF (some ⟨g,0,none⟩) (bS cG d).length cap) (bS cG d).length 3 ((bS cG d).flatMap aS.cells):=JD
open YtccjfanpjojbnaaGreatDoor renaming Y0→Zv
theorem UY (A:Option Addr) (c:Nat) (d:List aS) (w:World) (h:Rd w (aF A d.length c) d.length 3 ((d).flatMap aS.cells)) (hn:d.length<=1000000000):
  Calls aE 52 #[aF A d.length c,(.func (.func 53) #[] #[])] w (rO w (bS cG d).length 3 ((bS cG d).flatMap aS.cells)):=JC
