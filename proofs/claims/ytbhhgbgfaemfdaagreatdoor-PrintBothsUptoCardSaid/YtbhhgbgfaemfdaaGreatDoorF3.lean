/- Sorting in place, a list cloned, each thing once: what is forced. -/
import Derived.Lib.SliceRun
import Derived.Test.YtbhhgbgfaemfdaaGreatDoorSortFe
import Derived.Test.YtbhhgbgfaemfdaaGreatDoorSortFf
import Derived.Test.YtbhhgbgfaemfdaaGreatDoorPA
import Derived.Test.YtbhhgbgfaemfdaaGreatDoorS3
namespace Go.Proofs.YtbhhgbgfaemfdaaGreatDoor
open Lib renaming cell?_alloc_some→z45,hid→z2g,run_eql_slice_nil→z3v
open List renaming getElem?_eq_getElem→z2r,getElem?_eq_some_iff→z29,getElem?_set_ne→z43,length_append→z2i,length_set→z3s,length_take→z2u,replicate→z2x,take_of_length_le→z2o
open Nat renaming le_refl→z2m
set_option maxRecDepth 1000000
set_option maxHeartbeats 16000000
open Go.RowKit
open KF
open Go.Proofs.YtbhhgbgfaemfdaaGreatDoor renaming zkp→Zd,ztb→Ze,swoF→Z3,Frc→Z0,ltF→Z2,zh0→Z4,RowF→Z1
def SegF (w:World) (B g cap:Nat) (d:List Frc) (a b:Nat) (w':World):Prop:=zac (fun k=>k=g) w w'/\ ∃s,RowF w' B g cap (putS d a b s)/\Up ltF s/\za3 ltF s (segS d a b)
theorem zj0 (B g cap:Nat) (d:List Frc) (a b N:Nat) (w:World) (h:RowF w B g cap d) (hN:d.length=N) (hab:a<=b) (hb:b<=N) (hn:N<=1000000000):
  Calls Tryz.prog 217 #[.slice (some ⟨g,0,none⟩) N cap,.int .i64 a,.int .i64 b,(.func (.func 84) #[] #[])] w fun e w'=>e= .returned (.tuple #[])/\SegF w B g cap d a b w':=z07
theorem zp7 (B g cap:Nat) (d:List Frc) (a m b N:Nat) (w:World) (h:RowF w B g cap d) (hN:d.length=N) (ham:a<m) (hmb:m<b) (hb:b<=N) (hn:N<=1000000000) (hU1:Up ltF (segS d a m)) (hU2:Up ltF (segS d m b)):
  Calls Tryz.prog 218 #[.slice (some ⟨g,0,none⟩) N cap,.int .i64 a,.int .i64 m,.int .i64 b,(.func (.func 84) #[] #[])] w fun e w'=>e= .returned (.tuple #[])/\SegF w B g cap d a b w':=z06
open Go.Proofs.YtbhhgbgfaemfdaaGreatDoor renaming zp7→Zg
structure MidF (w:World) (B g cap:Nat) (d:List Frc) (D:List Frc) (wr:World):Prop where
 turned:zac (fun k=>k=g) w wr
 row:RowF wr B g cap D
 alike:za3 ltF D d
 len:D.length=d.length
open Go.Proofs.YtbhhgbgfaemfdaaGreatDoor renaming MidF→Zf
theorem MidF.seg {w:World} {B g cap:Nat} {d D:List Frc} {wr w':World} {a b:Nat} (h:MidF w B g cap d D wr) (hs:SegF wr B g cap D a b w') (hab:a<=b) (hb:b<=d.length):
  ∃s,MidF w B g cap d (putS D a b s) w'/\Up ltF s/\s.length=b-a:=zu7
def SrtF (w:World) (B g cap:Nat) (d:List Frc) (w':World):Prop:=zac (fun k=>k=g) w w'/\ ∃S,RowF w' B g cap S/\Up ltF S/\za3 ltF S d
theorem zpg (B g cap:Nat) (d:List Frc) (w:World) (h:RowF w B g cap d) (hn:d.length<=1000000000):
  Calls Tryz.prog 184 #[.slice (some ⟨g,0,none⟩) d.length cap,.int .i64 d.length,(.func (.func 84) #[] #[])] w fun e w'=>e= .returned (.tuple #[])/\SrtF w B g cap d w':=zu6
open Go.Proofs.YtbhhgbgfaemfdaaGreatDoor renaming zpg→Zj
theorem zqp (A:Option Addr) (cap:Nat) (w:World):
  Calls Tryz.prog 217 #[.slice A 0 cap,.int .i64 0,.int .i64 0,(.func (.func 84) #[] #[])] w fun e w'=>e= .returned (.tuple #[])/\w=w':=zu5
open Go.Proofs.YtbhhgbgfaemfdaaGreatDoor renaming zqp→Zh
theorem zkm (A:Option Addr) (cap:Nat) (w:World):
  Calls Tryz.prog 184 #[.slice A 0 cap,.int .i64 0,(.func (.func 84) #[] #[])] w fun e w'=>e= .returned (.tuple #[])/\w=w':=zu4
open Go.Proofs.YtbhhgbgfaemfdaaGreatDoor renaming zkm→Zi
theorem znj (A:Option Addr) (cap:Nat) (w:World):
  Calls Tryz.prog 139 #[.slice A 0 cap,(.func (.func 84) #[] #[])] w fun e w'=>e= .returned (.tuple #[])/\w=w':=zu3
open Go.Proofs.YtbhhgbgfaemfdaaGreatDoor renaming znj→Zr
theorem zvl (B g cap:Nat) (d:List Frc) (w:World) (h:RowF w B g cap d) (hn:d.length<=1000000000):
  Calls Tryz.prog 139 #[.slice (some ⟨g,0,none⟩) d.length cap,(.func (.func 84) #[] #[])] w fun e w'=>e= .returned (.tuple #[])/\SrtF w B g cap d w':=zu2
open Go.Proofs.YtbhhgbgfaemfdaaGreatDoor renaming zvl→Zu
theorem sltF:SlT Tryz.prog 41 72 (.agg #[.string ⟨#[]⟩,.string ⟨#[]⟩,.string ⟨#[]⟩]) 3 48:=⟨by kernel_rfl,by kernel_rfl,by kernel_rfl,by decide⟩
theorem zc6 (d:List Frc): ∀u∈d.flatMap Frc.cells,u.oneCell'=true:=by
 intro u hu
 obtain⟨x,_,hx⟩:=List.mem_flatMap.1 hu;simp only[Frc.cells,List.mem_cons,List.not_mem_nil,or_false]at hx;rcases hx with rfl|rfl|rfl<;>rfl
open Go.Proofs.YtbhhgbgfaemfdaaGreatDoor renaming zc6→Zk
theorem zmx (n c:Nat) (w:World):Calls Tryz.prog 138 #[.slice none n c] w fun e w'=>e= .returned (.slice none 0 0)/\w=w':=zu1
open Go.Proofs.YtbhhgbgfaemfdaaGreatDoor renaming zmx→Zq
theorem zt3 (ad:Addr) (c:Nat) (d:List Frc) (w:World) (h:Rd w (.slice (some ad) d.length c) d.length 3 (d.flatMap Frc.cells)) (hn:d.length<=1000000000):
  Calls Tryz.prog 138 #[.slice (some ad) d.length c] w fun e w'=> ∃v',e= .returned v'/\w'.ownsRow w.heap.size 72 3 v' d.length (d.flatMap Frc.cells)/\Below w.heap.size w w':=zu0
open Go.Proofs.YtbhhgbgfaemfdaaGreatDoor renaming zt3→Zt
theorem zns (b:Nat) (x y:Frc) (W:World) (hc:W.cell? ⟨b,0,none⟩=some (.func (.func 84) #[] #[])):Calls Tryz.prog 141 #[(x).agg,(y).agg,.pointer (some ⟨b,0,none⟩)] W (Ret (.bool (cmpP (x).key (y).key==0)) W):=zuz
theorem zj9 (A:Option Addr) (cap:Nat) (f:Value) (w:World):Calls Tryz.prog 140 #[.slice A 0 cap,f] w fun e w'=>e= .returned (.slice A 0 cap)/\w=w':=by
 have hmx:Tryz.prog.follows .mixedOrders=true:=by kernel_rfl
 go_enter Tryz.func140,Tryz.ntmps140
 go_wp2_with fail
 go_ret
 exact⟨rfl,rfl⟩
open Go.Proofs.YtbhhgbgfaemfdaaGreatDoor renaming zj9→Zs
def eqF (y x:Frc):Bool:=cmpP y.key x.key==0
open Go.Proofs.YtbhhgbgfaemfdaaGreatDoor renaming eqF→Zl
def CmpF (w:World) (B g cap:Nat) (d:List Frc) (w':World):Prop:=zac (fun k=>k=g) w w'/\ ∃E,RowF w' B g cap E/\E.length=d.length/\E.take (zbt eqF d).length=zbt eqF d
open Go.Proofs.YtbhhgbgfaemfdaaGreatDoor renaming CmpF→Zm
theorem zjg (w:World) (t e ty:TypeId) (z s:Value) (m:Nat) (ht:Tryz.prog.underlying t=some (.slice e)) (hv: ∀w,(zeroValue e).run Tryz.prog w= .ok z w) (hz:z.cells=Array.replicate m s) (hm:0<m) (h1:s.oneCell'=true) (b o n c:Nat) (hn:0<n)
  (hc: ∀j,j<n*m->(w.cell? ⟨b,o+j,none⟩).isSome=true) (hf: ∀j,j<n*m->w.frozen? ⟨b,o+j,none⟩=false):
  (Builtin.clear_ #[t] ty #[.slice (some ⟨b,o,none⟩) n c]).run Tryz.prog w= .ok (.tuple #[]) (w.setCells b o (z2x (n*m) s)):=by
 have hzc:(Builtin.zeroCells z.cells n).toList=z2x (n*m) s:=by
  rw[hz]
  simp only[Builtin.zeroCells]
  apply List.ext_getElem
  ·simp
  ·intro i h1 h2
   have hlt:=Nat.mod_lt i hm
   simp
   rw[getElem!_pos _ _ (by simpa using hlt)]
   simp
 have hst:=run_storeCells_cells (P:=Tryz.prog) b o (z2x (n*m) s) 0 w (by simpa using hc) (by simpa using hf) (by intro v hv';rw[List.eq_of_mem_replicate hv'];exact h1)
 simp only[Nat.add_zero]at hst
 obtain⟨k,rfl⟩: ∃k,n=k+1:=⟨n-1,by omega⟩
 simp[Builtin.clear_,run_underlying ht,hv,hzc,hst]
theorem zsm (W:World) (g o n:Nat) (s:Value):W.setCells g (o*3) (z2x ((n+1)*3) s)=(((W.setCell ⟨g,o*3,none⟩ s).setCell ⟨g,o*3+1,none⟩ s).setCell ⟨g,o*3+2,none⟩ s).setCells g ((o+1)*3) (z2x (n*3) s):=by
 rw[show(n+1)*3=n*3+3 by omega,show(o+1)*3=o*3+3 by omega]
 rfl
theorem RowF.clear {B g cap:Nat}: ∀(n o:Nat) (E:List Frc) (W:World),RowF W B g cap E->o+n<=E.length->
  ∃E',RowF (W.setCells g (o*3) (z2x (n*3) (sv []))) B g cap E'/\E'.length=E.length/\E'.take o=E.take o/\zac (fun k=>k=g) W (W.setCells g (o*3) (z2x (n*3) (sv []))):=by
 intro n
 induction n with
 |zero=>intro o E W h _;exact⟨E,(by rw[Nat.zero_mul];exact h),rfl,rfl,(by rw[Nat.zero_mul];exact zac.refl _ _)⟩
 |succ n ih=>
  intro o E W h ho
  obtain⟨E',h1,h2,h3,h4⟩:=ih (o+1) (E.set o (⟨[],[],[]⟩:Frc)) _ (h.set o (by omega) (⟨[],[],[]⟩:Frc)) (by rw[z3s];omega)
  rw[zsm]
  refine⟨E',h1,by rw[h2,z3s], ?_,((((zac.refl (fun k=>k=g) W).setCell (p:=⟨g,o*3,none⟩) (.inr rfl) (sv [])).setCell (p:=⟨g,o*3+1,none⟩) (.inr rfl) (sv [])).setCell (p:=⟨g,o*3+2,none⟩) (.inr rfl) (sv [])).trans h4⟩
  have h5:=congrArg (List.take o) h3
  rw[List.take_take,List.take_take,Nat.min_eq_left (by omega),List.take_set_of_le (z2m _)]at h5
  exact h5
theorem zero_F (w:World):(zeroValue 72).run Tryz.prog w= .ok (.agg #[.string ⟨#[]⟩,.string ⟨#[]⟩,.string ⟨#[]⟩]) w:=by kernel_rfl
theorem zos (B g cap b:Nat) (d:List Frc) (w:World) (h:RowF w B g cap d) (hc:w.cell? ⟨b,0,none⟩=some (.func (.func 84) #[] #[])) (hbg:b≠g) (hn:d.length<=1000000000):
  Calls Tryz.prog 140 #[.slice (some ⟨g,0,none⟩) d.length cap,.func (.func 141) #[] #[.pointer (some ⟨b,0,none⟩)]] w
   fun e w'=>e= .returned (.slice (some ⟨g,0,none⟩) (zbt eqF d).length cap)/\CmpF w B g cap d w':=zuy
open Go.Proofs.YtbhhgbgfaemfdaaGreatDoor renaming zos→Zo
theorem eqF_ev:eqF=ev ltF:=by
 funext y x
 have h1:=zxv y.key x.key
 have h2:ev ltF y x=ev ltP y.key x.key:=rfl
 have h3:ev ltP y.key x.key=decide (y.key=x.key):=ev_P _ _
 unfold eqF
 rw[h2,h3,<-h1,Bool.eq_iff_iff];simp
open Go.Proofs.YtbhhgbgfaemfdaaGreatDoor renaming eqF_ev→Zn
theorem zvx {W:World} {B g cap:Nat} {E:List Frc} (h:RowF W B g cap E) (m:Nat) (hm:m<=E.length):Rd W (.slice (some ⟨g,0,none⟩) m cap) m 3 ((E.take m).flatMap Frc.cells):=by
 have h1:=Rd.part (Rd.own h) m hm
 rw[zhd Frc.cells 3 (fun _=>rfl)]at h1
 exact h1
open Go.Proofs.YtbhhgbgfaemfdaaGreatDoor renaming zvx→Zp
theorem zjd (B g cap b:Nat) (d:List Frc) (W W':World) (hs:SrtF W B g cap d W') (hc:W'.cell? ⟨b,0,none⟩=some (.func (.func 84) #[] #[])) (hbg:b≠g) (hn:d.length<=1000000000):
  Calls Tryz.prog 140 #[.slice (some ⟨g,0,none⟩) d.length cap,.func (.func 141) #[] #[.pointer (some ⟨b,0,none⟩)]] W'
   fun e w'=>e= .returned (.slice (some ⟨g,0,none⟩) (zar ltF d).length cap)/\zac (fun k=>k=g) W' w'/\Rd w' (.slice (some ⟨g,0,none⟩) (zar ltF d).length cap) (zar ltF d).length 3 ((zar ltF d).flatMap Frc.cells):=zux
open Go.Proofs.YtbhhgbgfaemfdaaGreatDoor renaming zjd→Zv
theorem zoi (A:Option Addr) (c:Nat) (d:List Frc) (w:World) (h:Rd w (.slice A d.length c) d.length 3 ((d).flatMap Frc.cells)) (hn:d.length<=1000000000):
  Calls Tryz.prog 83 #[.slice A d.length c,(.func (.func 84) #[] #[])] w (RetN w (zar ltF d).length 3 ((zar ltF d).flatMap Frc.cells)):=zuw
end Go.Proofs.YtbhhgbgfaemfdaaGreatDoor

