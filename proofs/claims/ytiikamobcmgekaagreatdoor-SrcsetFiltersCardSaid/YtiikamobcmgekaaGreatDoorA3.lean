/- Sorting in place, a list cloned, each thing once: what is allowed. -/
import Derived.Lib.SliceRun
import Derived.Test.YtiikamobcmgekaaGreatDoorSortAb
import Derived.Test.YtiikamobcmgekaaGreatDoorSortAf
import Derived.Test.YtiikamobcmgekaaGreatDoorPA
import Derived.Test.YtiikamobcmgekaaGreatDoorS3
namespace Go.Proofs.YtiikamobcmgekaaGreatDoor
open Lib renaming cell?_alloc_some→z56,hid→z2c,run_eql_slice_nil→z3w
open List renaming getElem?_eq_getElem→z2q,getElem?_eq_some_iff→z24,getElem?_set_ne→z54,length_append→z2h,length_set→z5a,length_take→z2r,replicate→z2x,take_of_length_le→z2p
open Nat renaming le_refl→z2k
open Tryz renaming prog→z2f
set_option maxRecDepth 1000000
set_option maxHeartbeats 16000000
open Go.RowKit
open KA
open Go.Proofs.YtiikamobcmgekaaGreatDoor renaming zk2→Zd,zt5→Ze,swoA→Z3,Alw→Z0,ltA→Z2,zeu→Z4,RowA→Z1
def SegA (w:World) (B g cap:Nat) (d:List Alw) (a b:Nat) (w':World):Prop:=zab (fun k=>k=g) w w'/\ ∃s,RowA w' B g cap (putS d a b s)/\Up ltA s/\zax ltA s (segS d a b)
theorem zkg (B g cap:Nat) (d:List Alw) (a b N:Nat) (w:World) (h:RowA w B g cap d) (hN:d.length=N) (hab:a<=b) (hb:b<=N) (hn:N<=1000000000):
  Calls z2f 285 #[.slice (some ⟨g,0,none⟩) N cap,.int .i64 a,.int .i64 b,(.func (.func 120) #[] #[])] w fun e w'=>e= .returned (.tuple #[])/\SegA w B g cap d a b w':=z1e
theorem zqy (B g cap:Nat) (d:List Alw) (a m b N:Nat) (w:World) (h:RowA w B g cap d) (hN:d.length=N) (ham:a<m) (hmb:m<b) (hb:b<=N) (hn:N<=1000000000) (hU1:Up ltA (segS d a m)) (hU2:Up ltA (segS d m b)):
  Calls z2f 286 #[.slice (some ⟨g,0,none⟩) N cap,.int .i64 a,.int .i64 m,.int .i64 b,(.func (.func 120) #[] #[])] w fun e w'=>e= .returned (.tuple #[])/\SegA w B g cap d a b w':=z1d
open Go.Proofs.YtiikamobcmgekaaGreatDoor renaming zqy→Zg
structure MidA (w:World) (B g cap:Nat) (d:List Alw) (D:List Alw) (wr:World):Prop where
 turned:zab (fun k=>k=g) w wr
 row:RowA wr B g cap D
 alike:zax ltA D d
 len:D.length=d.length
open Go.Proofs.YtiikamobcmgekaaGreatDoor renaming MidA→Zf
theorem MidA.seg {w:World} {B g cap:Nat} {d D:List Alw} {wr w':World} {a b:Nat} (h:MidA w B g cap d D wr) (hs:SegA wr B g cap D a b w') (hab:a<=b) (hb:b<=d.length):
  ∃s,MidA w B g cap d (putS D a b s) w'/\Up ltA s/\s.length=b-a:=zvw
def SrtA (w:World) (B g cap:Nat) (d:List Alw) (w':World):Prop:=zab (fun k=>k=g) w w'/\ ∃S,RowA w' B g cap S/\Up ltA S/\zax ltA S d
theorem zp4 (B g cap:Nat) (d:List Alw) (w:World) (h:RowA w B g cap d) (hn:d.length<=1000000000):
  Calls z2f 258 #[.slice (some ⟨g,0,none⟩) d.length cap,.int .i64 d.length,(.func (.func 120) #[] #[])] w fun e w'=>e= .returned (.tuple #[])/\SrtA w B g cap d w':=zvv
open Go.Proofs.YtiikamobcmgekaaGreatDoor renaming zp4→Zj
theorem zrg (A:Option Addr) (cap:Nat) (w:World):
  Calls z2f 285 #[.slice A 0 cap,.int .i64 0,.int .i64 0,(.func (.func 120) #[] #[])] w fun e w'=>e= .returned (.tuple #[])/\w=w':=zvu
open Go.Proofs.YtiikamobcmgekaaGreatDoor renaming zrg→Zh
theorem zkz (A:Option Addr) (cap:Nat) (w:World):
  Calls z2f 258 #[.slice A 0 cap,.int .i64 0,(.func (.func 120) #[] #[])] w fun e w'=>e= .returned (.tuple #[])/\w=w':=zvt
open Go.Proofs.YtiikamobcmgekaaGreatDoor renaming zkz→Zi
theorem zn1 (A:Option Addr) (cap:Nat) (w:World):
  Calls z2f 197 #[.slice A 0 cap,(.func (.func 120) #[] #[])] w fun e w'=>e= .returned (.tuple #[])/\w=w':=zvs
open Go.Proofs.YtiikamobcmgekaaGreatDoor renaming zn1→Zr
theorem zwg (B g cap:Nat) (d:List Alw) (w:World) (h:RowA w B g cap d) (hn:d.length<=1000000000):
  Calls z2f 197 #[.slice (some ⟨g,0,none⟩) d.length cap,(.func (.func 120) #[] #[])] w fun e w'=>e= .returned (.tuple #[])/\SrtA w B g cap d w':=zvr
open Go.Proofs.YtiikamobcmgekaaGreatDoor renaming zwg→Zu
theorem sltA:SlT z2f 48 101 (.agg #[.string ⟨#[]⟩,.string ⟨#[]⟩]) 2 32:=⟨by kernel_rfl,by kernel_rfl,by kernel_rfl,by decide⟩
theorem zee (d:List Alw): ∀u∈d.flatMap Alw.cells,u.oneCell'=true:=by
 intro u hu;obtain⟨x,_,hx⟩:=List.mem_flatMap.1 hu;simp only[Alw.cells,List.mem_cons,List.not_mem_nil,or_false]at hx;rcases hx with rfl|rfl<;>rfl
open Go.Proofs.YtiikamobcmgekaaGreatDoor renaming zee→Zk
theorem zng (n c:Nat) (w:World):Calls z2f 196 #[.slice none n c] w fun e w'=>e= .returned (.slice none 0 0)/\w=w':=zvq
open Go.Proofs.YtiikamobcmgekaaGreatDoor renaming zng→Zq
theorem zuy (ad:Addr) (c:Nat) (d:List Alw) (w:World) (h:Rd w (.slice (some ad) d.length c) d.length 2 (d.flatMap Alw.cells)) (hn:d.length<=1000000000):
  Calls z2f 196 #[.slice (some ad) d.length c] w fun e w'=> ∃v',e= .returned v'/\w'.ownsRow w.heap.size 101 2 v' d.length (d.flatMap Alw.cells)/\Below w.heap.size w w':=zvp
open Go.Proofs.YtiikamobcmgekaaGreatDoor renaming zuy→Zt
theorem zob (b:Nat) (x y:Alw) (W:World) (hc:W.cell? ⟨b,0,none⟩=some (.func (.func 120) #[] #[])):Calls z2f 199 #[(x).agg,(y).agg,.pointer (some ⟨b,0,none⟩)] W (Ret (.bool (cmpP (x).key (y).key==0)) W):=zvo
theorem zkn (A:Option Addr) (cap:Nat) (f:Value) (w:World):Calls z2f 198 #[.slice A 0 cap,f] w fun e w'=>e= .returned (.slice A 0 cap)/\w=w':=by
 have hmx:=mxd;go_enter Tryz.func198,Tryz.ntmps198;go_wp2_with fail
 go_ret;exact⟨rfl,rfl⟩
open Go.Proofs.YtiikamobcmgekaaGreatDoor renaming zkn→Zs
def eqA (y x:Alw):Bool:=cmpP y.key x.key==0
open Go.Proofs.YtiikamobcmgekaaGreatDoor renaming eqA→Zl
def CmpA (w:World) (B g cap:Nat) (d:List Alw) (w':World):Prop:=zab (fun k=>k=g) w w'/\ ∃E,RowA w' B g cap E/\E.length=d.length/\E.take (zbw eqA d).length=zbw eqA d
open Go.Proofs.YtiikamobcmgekaaGreatDoor renaming CmpA→Zm
theorem zjw (w:World) (t e ty:TypeId) (z s:Value) (m:Nat) (ht:z2f.underlying t=some (.slice e)) (hv: ∀w,(zeroValue e).run z2f w= .ok z w) (hz:z.cells=Array.replicate m s) (hm:0<m) (h1:s.oneCell'=true) (b o n c:Nat) (hn:0<n)
  (hc: ∀j,j<n*m->(w.cell? ⟨b,o+j,none⟩).isSome=true) (hf: ∀j,j<n*m->w.frozen? ⟨b,o+j,none⟩=false):
  (Builtin.clear_ #[t] ty #[.slice (some ⟨b,o,none⟩) n c]).run z2f w= .ok (.tuple #[]) (w.setCells b o (z2x (n*m) s)):=by
 have hzc:(Builtin.zeroCells z.cells n).toList=z2x (n*m) s:=by
  rw[hz];simp only[Builtin.zeroCells];apply List.ext_getElem
  ·simp
  ·intro i h1 h2;have hlt:=Nat.mod_lt i hm;simp;rw[getElem!_pos _ _ (by simpa using hlt)];simp
 have hst:=run_storeCells_cells (P:=z2f) b o (z2x (n*m) s) 0 w (by simpa using hc) (by simpa using hf) (by intro v hv';rw[List.eq_of_mem_replicate hv'];exact h1);simp only[Nat.add_zero]at hst;obtain⟨k,rfl⟩: ∃k,n=k+1:=⟨n-1,by omega⟩;simp[Builtin.clear_,run_underlying ht,hv,hzc,hst]
theorem zth (W:World) (g o n:Nat) (s:Value):W.setCells g (o*2) (z2x ((n+1)*2) s)=((W.setCell ⟨g,o*2,none⟩ s).setCell ⟨g,o*2+1,none⟩ s).setCells g ((o+1)*2) (z2x (n*2) s):=by
 rw[show(n+1)*2=n*2+2 by omega,show(o+1)*2=o*2+2 by omega];rfl
theorem RowA.clear {B g cap:Nat}: ∀(n o:Nat) (E:List Alw) (W:World),RowA W B g cap E->o+n<=E.length->
  ∃E',RowA (W.setCells g (o*2) (z2x (n*2) (sv []))) B g cap E'/\E'.length=E.length/\E'.take o=E.take o/\zab (fun k=>k=g) W (W.setCells g (o*2) (z2x (n*2) (sv []))):=by
 intro n;induction n with
 |zero=>intro o E W h _;exact⟨E,(by rw[Nat.zero_mul];exact h),rfl,rfl,(by rw[Nat.zero_mul];exact zab.refl _ _)⟩
 |succ n ih=>
  intro o E W h ho;obtain⟨E',h1,h2,h3,h4⟩:=ih (o+1) (E.set o (⟨[],[]⟩:Alw)) _ (h.set o (by omega) (⟨[],[]⟩:Alw)) (by rw[z5a];omega);rw[zth];refine⟨E',h1,by rw[h2,z5a], ?_,(((zab.refl (fun k=>k=g) W).setCell (p:=⟨g,o*2,none⟩) (.inr rfl) (sv [])).setCell (p:=⟨g,o*2+1,none⟩) (.inr rfl) (sv [])).trans h4⟩;have h5:=congrArg (List.take o) h3;rw[List.take_take,List.take_take,Nat.min_eq_left (by omega),List.take_set_of_le (z2k _)]at h5;exact h5
theorem zero_A (w:World):(zeroValue 101).run z2f w= .ok (.agg #[.string ⟨#[]⟩,.string ⟨#[]⟩]) w:=by kernel_rfl
theorem zpf (B g cap b:Nat) (d:List Alw) (w:World) (h:RowA w B g cap d) (hc:w.cell? ⟨b,0,none⟩=some (.func (.func 120) #[] #[])) (hbg:b≠g) (hn:d.length<=1000000000):
  Calls z2f 198 #[.slice (some ⟨g,0,none⟩) d.length cap,.func (.func 199) #[] #[.pointer (some ⟨b,0,none⟩)]] w
   fun e w'=>e= .returned (.slice (some ⟨g,0,none⟩) (zbw eqA d).length cap)/\CmpA w B g cap d w':=zvn
open Go.Proofs.YtiikamobcmgekaaGreatDoor renaming zpf→Zo
theorem eqA_ev:eqA=ev ltA:=by
 funext y x;have h1:=zyj y.key x.key;have h2:ev ltA y x=ev ltP y.key x.key:=rfl;have h3:ev ltP y.key x.key=decide (y.key=x.key):=ev_P _ _;unfold eqA;rw[h2,h3,<-h1,Bool.eq_iff_iff];simp
open Go.Proofs.YtiikamobcmgekaaGreatDoor renaming eqA_ev→Zn
theorem zwv {W:World} {B g cap:Nat} {E:List Alw} (h:RowA W B g cap E) (m:Nat) (hm:m<=E.length):Rd W (.slice (some ⟨g,0,none⟩) m cap) m 2 ((E.take m).flatMap Alw.cells):=by
 have h1:=Rd.part (Rd.own h) m hm;rw[zhq Alw.cells 2 (fun _=>rfl)]at h1;exact h1
open Go.Proofs.YtiikamobcmgekaaGreatDoor renaming zwv→Zp
theorem zjs (B g cap b:Nat) (d:List Alw) (W W':World) (hs:SrtA W B g cap d W') (hc:W'.cell? ⟨b,0,none⟩=some (.func (.func 120) #[] #[])) (hbg:b≠g) (hn:d.length<=1000000000):
  Calls z2f 198 #[.slice (some ⟨g,0,none⟩) d.length cap,.func (.func 199) #[] #[.pointer (some ⟨b,0,none⟩)]] W'
   fun e w'=>e= .returned (.slice (some ⟨g,0,none⟩) (zap ltA d).length cap)/\zab (fun k=>k=g) W' w'/\Rd w' (.slice (some ⟨g,0,none⟩) (zap ltA d).length cap) (zap ltA d).length 2 ((zap ltA d).flatMap Alw.cells):=zvm
open Go.Proofs.YtiikamobcmgekaaGreatDoor renaming zjs→Zv
theorem zo1 (A:Option Addr) (c:Nat) (d:List Alw) (w:World) (h:Rd w (.slice A d.length c) d.length 2 ((d).flatMap Alw.cells)) (hn:d.length<=1000000000):
  Calls z2f 119 #[.slice A d.length c,(.func (.func 120) #[] #[])] w (RetN w (zap ltA d).length 2 ((zap ltA d).flatMap Alw.cells)):=zvl
end Go.Proofs.YtiikamobcmgekaaGreatDoor

