/- Sorting in place, a list cloned, each thing once: what is forced. -/
import Derived.Lib.SliceRun
import Derived.Test.YtiikamobcmgekaaGreatDoorSortFb
import Derived.Test.YtiikamobcmgekaaGreatDoorSortFf
import Derived.Test.YtiikamobcmgekaaGreatDoorPA
import Derived.Test.YtiikamobcmgekaaGreatDoorS3
namespace Go.Proofs.YtiikamobcmgekaaGreatDoor
open Lib renaming cell?_alloc_some→z56,hid→z2c,run_eql_slice_nil→z3w
open List renaming getElem?_eq_getElem→z2q,getElem?_eq_some_iff→z24,getElem?_set_ne→z54,length_append→z2h,length_set→z5a,length_take→z2r,replicate→z2x,take_of_length_le→z2p
open Nat renaming le_refl→z2k
open Tryz renaming prog→z2f
set_option maxRecDepth 1000000
set_option maxHeartbeats 16000000
open Go.RowKit
open KF
open Go.Proofs.YtiikamobcmgekaaGreatDoor renaming zk1→Zd,zt4→Ze,swoF→Z3,Frc→Z0,ltF→Z2,ze9→Z4,RowF→Z1
def SegF (w:World) (B g cap:Nat) (d:List Frc) (a b:Nat) (w':World):Prop:=zab (fun k=>k=g) w w'/\ ∃s,RowF w' B g cap (putS d a b s)/\Up ltF s/\zax ltF s (segS d a b)
theorem zkf (B g cap:Nat) (d:List Frc) (a b N:Nat) (w:World) (h:RowF w B g cap d) (hN:d.length=N) (hab:a<=b) (hb:b<=N) (hn:N<=1000000000):
  Calls z2f 287 #[.slice (some ⟨g,0,none⟩) N cap,.int .i64 a,.int .i64 b,(.func (.func 122) #[] #[])] w fun e w'=>e= .returned (.tuple #[])/\SegF w B g cap d a b w':=z1e
theorem zqx (B g cap:Nat) (d:List Frc) (a m b N:Nat) (w:World) (h:RowF w B g cap d) (hN:d.length=N) (ham:a<m) (hmb:m<b) (hb:b<=N) (hn:N<=1000000000) (hU1:Up ltF (segS d a m)) (hU2:Up ltF (segS d m b)):
  Calls z2f 288 #[.slice (some ⟨g,0,none⟩) N cap,.int .i64 a,.int .i64 m,.int .i64 b,(.func (.func 122) #[] #[])] w fun e w'=>e= .returned (.tuple #[])/\SegF w B g cap d a b w':=z1d
open Go.Proofs.YtiikamobcmgekaaGreatDoor renaming zqx→Zg
structure MidF (w:World) (B g cap:Nat) (d:List Frc) (D:List Frc) (wr:World):Prop where
 turned:zab (fun k=>k=g) w wr
 row:RowF wr B g cap D
 alike:zax ltF D d
 len:D.length=d.length
open Go.Proofs.YtiikamobcmgekaaGreatDoor renaming MidF→Zf
theorem MidF.seg {w:World} {B g cap:Nat} {d D:List Frc} {wr w':World} {a b:Nat} (h:MidF w B g cap d D wr) (hs:SegF wr B g cap D a b w') (hab:a<=b) (hb:b<=d.length):
  ∃s,MidF w B g cap d (putS D a b s) w'/\Up ltF s/\s.length=b-a:=zvw
def SrtF (w:World) (B g cap:Nat) (d:List Frc) (w':World):Prop:=zab (fun k=>k=g) w w'/\ ∃S,RowF w' B g cap S/\Up ltF S/\zax ltF S d
theorem zp3 (B g cap:Nat) (d:List Frc) (w:World) (h:RowF w B g cap d) (hn:d.length<=1000000000):
  Calls z2f 259 #[.slice (some ⟨g,0,none⟩) d.length cap,.int .i64 d.length,(.func (.func 122) #[] #[])] w fun e w'=>e= .returned (.tuple #[])/\SrtF w B g cap d w':=zvv
open Go.Proofs.YtiikamobcmgekaaGreatDoor renaming zp3→Zj
theorem zrf (A:Option Addr) (cap:Nat) (w:World):
  Calls z2f 287 #[.slice A 0 cap,.int .i64 0,.int .i64 0,(.func (.func 122) #[] #[])] w fun e w'=>e= .returned (.tuple #[])/\w=w':=zvu
open Go.Proofs.YtiikamobcmgekaaGreatDoor renaming zrf→Zh
theorem zky (A:Option Addr) (cap:Nat) (w:World):
  Calls z2f 259 #[.slice A 0 cap,.int .i64 0,(.func (.func 122) #[] #[])] w fun e w'=>e= .returned (.tuple #[])/\w=w':=zvt
open Go.Proofs.YtiikamobcmgekaaGreatDoor renaming zky→Zi
theorem zn0 (A:Option Addr) (cap:Nat) (w:World):
  Calls z2f 202 #[.slice A 0 cap,(.func (.func 122) #[] #[])] w fun e w'=>e= .returned (.tuple #[])/\w=w':=zvs
open Go.Proofs.YtiikamobcmgekaaGreatDoor renaming zn0→Zr
theorem zwf (B g cap:Nat) (d:List Frc) (w:World) (h:RowF w B g cap d) (hn:d.length<=1000000000):
  Calls z2f 202 #[.slice (some ⟨g,0,none⟩) d.length cap,(.func (.func 122) #[] #[])] w fun e w'=>e= .returned (.tuple #[])/\SrtF w B g cap d w':=zvr
open Go.Proofs.YtiikamobcmgekaaGreatDoor renaming zwf→Zu
theorem sltF:SlT z2f 49 103 (.agg #[.string ⟨#[]⟩,.string ⟨#[]⟩,.string ⟨#[]⟩]) 3 48:=⟨by kernel_rfl,by kernel_rfl,by kernel_rfl,by decide⟩
theorem zed (d:List Frc): ∀u∈d.flatMap Frc.cells,u.oneCell'=true:=by
 intro u hu;obtain⟨x,_,hx⟩:=List.mem_flatMap.1 hu;simp only[Frc.cells,List.mem_cons,List.not_mem_nil,or_false]at hx;rcases hx with rfl|rfl|rfl<;>rfl
open Go.Proofs.YtiikamobcmgekaaGreatDoor renaming zed→Zk
theorem znf (n c:Nat) (w:World):Calls z2f 201 #[.slice none n c] w fun e w'=>e= .returned (.slice none 0 0)/\w=w':=zvq
open Go.Proofs.YtiikamobcmgekaaGreatDoor renaming znf→Zq
theorem zux (ad:Addr) (c:Nat) (d:List Frc) (w:World) (h:Rd w (.slice (some ad) d.length c) d.length 3 (d.flatMap Frc.cells)) (hn:d.length<=1000000000):
  Calls z2f 201 #[.slice (some ad) d.length c] w fun e w'=> ∃v',e= .returned v'/\w'.ownsRow w.heap.size 103 3 v' d.length (d.flatMap Frc.cells)/\Below w.heap.size w w':=zvp
open Go.Proofs.YtiikamobcmgekaaGreatDoor renaming zux→Zt
theorem zoa (b:Nat) (x y:Frc) (W:World) (hc:W.cell? ⟨b,0,none⟩=some (.func (.func 122) #[] #[])):Calls z2f 204 #[(x).agg,(y).agg,.pointer (some ⟨b,0,none⟩)] W (Ret (.bool (cmpP (x).key (y).key==0)) W):=zvo
theorem zkm (A:Option Addr) (cap:Nat) (f:Value) (w:World):Calls z2f 203 #[.slice A 0 cap,f] w fun e w'=>e= .returned (.slice A 0 cap)/\w=w':=by
 have hmx:=mxd;go_enter Tryz.func203,Tryz.ntmps203;go_wp2_with fail
 go_ret;exact⟨rfl,rfl⟩
open Go.Proofs.YtiikamobcmgekaaGreatDoor renaming zkm→Zs
def eqF (y x:Frc):Bool:=cmpP y.key x.key==0
open Go.Proofs.YtiikamobcmgekaaGreatDoor renaming eqF→Zl
def CmpF (w:World) (B g cap:Nat) (d:List Frc) (w':World):Prop:=zab (fun k=>k=g) w w'/\ ∃E,RowF w' B g cap E/\E.length=d.length/\E.take (zbw eqF d).length=zbw eqF d
open Go.Proofs.YtiikamobcmgekaaGreatDoor renaming CmpF→Zm
theorem zjv (w:World) (t e ty:TypeId) (z s:Value) (m:Nat) (ht:z2f.underlying t=some (.slice e)) (hv: ∀w,(zeroValue e).run z2f w= .ok z w) (hz:z.cells=Array.replicate m s) (hm:0<m) (h1:s.oneCell'=true) (b o n c:Nat) (hn:0<n)
  (hc: ∀j,j<n*m->(w.cell? ⟨b,o+j,none⟩).isSome=true) (hf: ∀j,j<n*m->w.frozen? ⟨b,o+j,none⟩=false):
  (Builtin.clear_ #[t] ty #[.slice (some ⟨b,o,none⟩) n c]).run z2f w= .ok (.tuple #[]) (w.setCells b o (z2x (n*m) s)):=by
 have hzc:(Builtin.zeroCells z.cells n).toList=z2x (n*m) s:=by
  rw[hz];simp only[Builtin.zeroCells];apply List.ext_getElem
  ·simp
  ·intro i h1 h2;have hlt:=Nat.mod_lt i hm;simp;rw[getElem!_pos _ _ (by simpa using hlt)];simp
 have hst:=run_storeCells_cells (P:=z2f) b o (z2x (n*m) s) 0 w (by simpa using hc) (by simpa using hf) (by intro v hv';rw[List.eq_of_mem_replicate hv'];exact h1);simp only[Nat.add_zero]at hst;obtain⟨k,rfl⟩: ∃k,n=k+1:=⟨n-1,by omega⟩;simp[Builtin.clear_,run_underlying ht,hv,hzc,hst]
theorem ztg (W:World) (g o n:Nat) (s:Value):W.setCells g (o*3) (z2x ((n+1)*3) s)=(((W.setCell ⟨g,o*3,none⟩ s).setCell ⟨g,o*3+1,none⟩ s).setCell ⟨g,o*3+2,none⟩ s).setCells g ((o+1)*3) (z2x (n*3) s):=by
 rw[show(n+1)*3=n*3+3 by omega,show(o+1)*3=o*3+3 by omega];rfl
theorem RowF.clear {B g cap:Nat}: ∀(n o:Nat) (E:List Frc) (W:World),RowF W B g cap E->o+n<=E.length->
  ∃E',RowF (W.setCells g (o*3) (z2x (n*3) (sv []))) B g cap E'/\E'.length=E.length/\E'.take o=E.take o/\zab (fun k=>k=g) W (W.setCells g (o*3) (z2x (n*3) (sv []))):=by
 intro n;induction n with
 |zero=>intro o E W h _;exact⟨E,(by rw[Nat.zero_mul];exact h),rfl,rfl,(by rw[Nat.zero_mul];exact zab.refl _ _)⟩
 |succ n ih=>
  intro o E W h ho;obtain⟨E',h1,h2,h3,h4⟩:=ih (o+1) (E.set o (⟨[],[],[]⟩:Frc)) _ (h.set o (by omega) (⟨[],[],[]⟩:Frc)) (by rw[z5a];omega);rw[ztg];refine⟨E',h1,by rw[h2,z5a], ?_,((((zab.refl (fun k=>k=g) W).setCell (p:=⟨g,o*3,none⟩) (.inr rfl) (sv [])).setCell (p:=⟨g,o*3+1,none⟩) (.inr rfl) (sv [])).setCell (p:=⟨g,o*3+2,none⟩) (.inr rfl) (sv [])).trans h4⟩;have h5:=congrArg (List.take o) h3;rw[List.take_take,List.take_take,Nat.min_eq_left (by omega),List.take_set_of_le (z2k _)]at h5;exact h5
theorem zero_F (w:World):(zeroValue 103).run z2f w= .ok (.agg #[.string ⟨#[]⟩,.string ⟨#[]⟩,.string ⟨#[]⟩]) w:=by kernel_rfl
theorem zpe (B g cap b:Nat) (d:List Frc) (w:World) (h:RowF w B g cap d) (hc:w.cell? ⟨b,0,none⟩=some (.func (.func 122) #[] #[])) (hbg:b≠g) (hn:d.length<=1000000000):
  Calls z2f 203 #[.slice (some ⟨g,0,none⟩) d.length cap,.func (.func 204) #[] #[.pointer (some ⟨b,0,none⟩)]] w
   fun e w'=>e= .returned (.slice (some ⟨g,0,none⟩) (zbw eqF d).length cap)/\CmpF w B g cap d w':=zvn
open Go.Proofs.YtiikamobcmgekaaGreatDoor renaming zpe→Zo
theorem eqF_ev:eqF=ev ltF:=by
 funext y x;have h1:=zyj y.key x.key;have h2:ev ltF y x=ev ltP y.key x.key:=rfl;have h3:ev ltP y.key x.key=decide (y.key=x.key):=ev_P _ _;unfold eqF;rw[h2,h3,<-h1,Bool.eq_iff_iff];simp
open Go.Proofs.YtiikamobcmgekaaGreatDoor renaming eqF_ev→Zn
theorem zwu {W:World} {B g cap:Nat} {E:List Frc} (h:RowF W B g cap E) (m:Nat) (hm:m<=E.length):Rd W (.slice (some ⟨g,0,none⟩) m cap) m 3 ((E.take m).flatMap Frc.cells):=by
 have h1:=Rd.part (Rd.own h) m hm;rw[zhq Frc.cells 3 (fun _=>rfl)]at h1;exact h1
open Go.Proofs.YtiikamobcmgekaaGreatDoor renaming zwu→Zp
theorem zjr (B g cap b:Nat) (d:List Frc) (W W':World) (hs:SrtF W B g cap d W') (hc:W'.cell? ⟨b,0,none⟩=some (.func (.func 122) #[] #[])) (hbg:b≠g) (hn:d.length<=1000000000):
  Calls z2f 203 #[.slice (some ⟨g,0,none⟩) d.length cap,.func (.func 204) #[] #[.pointer (some ⟨b,0,none⟩)]] W'
   fun e w'=>e= .returned (.slice (some ⟨g,0,none⟩) (zap ltF d).length cap)/\zab (fun k=>k=g) W' w'/\Rd w' (.slice (some ⟨g,0,none⟩) (zap ltF d).length cap) (zap ltF d).length 3 ((zap ltF d).flatMap Frc.cells):=zvm
open Go.Proofs.YtiikamobcmgekaaGreatDoor renaming zjr→Zv
theorem zo0 (A:Option Addr) (c:Nat) (d:List Frc) (w:World) (h:Rd w (.slice A d.length c) d.length 3 ((d).flatMap Frc.cells)) (hn:d.length<=1000000000):
  Calls z2f 121 #[.slice A d.length c,(.func (.func 122) #[] #[])] w (RetN w (zap ltF d).length 3 ((zap ltF d).flatMap Frc.cells)):=zvl
end Go.Proofs.YtiikamobcmgekaaGreatDoor

