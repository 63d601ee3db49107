/- Sorting in place, a list cloned, each thing once: what is forced. -/
import Derived.Lib.SliceRun
import Derived.Test.YtiikamobcmgekaaGreatDoorSortFc
import Derived.Test.YtiikamobcmgekaaGreatDoorSortFf
import Derived.Test.YtiikamobcmgekaaGreatDoorPA
import Derived.Test.YtiikamobcmgekaaGreatDoorS3
namespace Go.Proofs.YtiikamobcmgekaaGreatDoor
set_option maxRecDepth 1000000
set_option maxHeartbeats 16000000
open Go.RowKit
open KF
open Go.Proofs.YtiikamobcmgekaaGreatDoor renaming insertionF_any→Zd,mergeF_any→Ze,swoF→Z3z,Frc→Z0,ltF→Z2z,forced_any→Z4z,RowF→Z1
def SegF (w:World) (B g cap:Nat) (d:List Frc) (a b:Nat) (w':World):Prop:=Turned (fun k=>k=g) w w'/\ ∃s,RowF w' B g cap (putS d a b s)/\Up ltF s/\Alike ltF s (segS d a b)
theorem insSegF_any (B g cap:Nat) (d:List Frc) (a b N:Nat) (w:World) (h:RowF w B g cap d) (hN:d.length=N) (hab:a<=b) (hb:b<=N) (hn:N<=1000000000):
  Calls Tryz.prog 287 #[.slice (some ⟨g,0,none⟩) N cap,.int .i64 a,.int .i64 b,(.func (.func 122) #[] #[])] w fun e w'=>e= .returned (.tuple #[])/\SegF w B g cap d a b w':=unS38
theorem mrgSegF_any (B g cap:Nat) (d:List Frc) (a m b N:Nat) (w:World) (h:RowF w B g cap d) (hN:d.length=N) (ham:a<m) (hmb:m<b) (hb:b<=N) (hn:N<=1000000000) (hU1:Up ltF (segS d a m)) (hU2:Up ltF (segS d m b)):
  Calls Tryz.prog 288 #[.slice (some ⟨g,0,none⟩) N cap,.int .i64 a,.int .i64 m,.int .i64 b,(.func (.func 122) #[] #[])] w fun e w'=>e= .returned (.tuple #[])/\SegF w B g cap d a b w':=unS39
open Go.Proofs.YtiikamobcmgekaaGreatDoor renaming mrgSegF_any→Zg
structure MidF (w:World) (B g cap:Nat) (d:List Frc) (D:List Frc) (wr:World):Prop where
 turned:Turned (fun k=>k=g) w wr
 row:RowF wr B g cap D
 alike:Alike ltF D d
 len:D.length=d.length
open Go.Proofs.YtiikamobcmgekaaGreatDoor renaming MidF→Zf
theorem MidF.seg {w:World} {B g cap:Nat} {d D:List Frc} {wr w':World} {a b:Nat} (h:MidF w B g cap d D wr) (hs:SegF wr B g cap D a b w') (hab:a<=b) (hb:b<=d.length):
  ∃s,MidF w B g cap d (putS D a b s) w'/\Up ltF s/\s.length=b-a:=unS310
def SrtF (w:World) (B g cap:Nat) (d:List Frc) (w':World):Prop:=Turned (fun k=>k=g) w w'/\ ∃S,RowF w' B g cap S/\Up ltF S/\Alike ltF S d
theorem stableF_any (B g cap:Nat) (d:List Frc) (w:World) (h:RowF w B g cap d) (hn:d.length<=1000000000):
  Calls Tryz.prog 259 #[.slice (some ⟨g,0,none⟩) d.length cap,.int .i64 d.length,(.func (.func 122) #[] #[])] w fun e w'=>e= .returned (.tuple #[])/\SrtF w B g cap d w':=unS311
open Go.Proofs.YtiikamobcmgekaaGreatDoor renaming stableF_any→Zj
theorem insNilF_any (A:Option Addr) (cap:Nat) (w:World):
  Calls Tryz.prog 287 #[.slice A 0 cap,.int .i64 0,.int .i64 0,(.func (.func 122) #[] #[])] w fun e w'=>e= .returned (.tuple #[])/\w=w':=unS312
open Go.Proofs.YtiikamobcmgekaaGreatDoor renaming insNilF_any→Zh
theorem stableNilF_any (A:Option Addr) (cap:Nat) (w:World):
  Calls Tryz.prog 259 #[.slice A 0 cap,.int .i64 0,(.func (.func 122) #[] #[])] w fun e w'=>e= .returned (.tuple #[])/\w=w':=unS313
open Go.Proofs.YtiikamobcmgekaaGreatDoor renaming stableNilF_any→Zi
theorem sortNilF_any (A:Option Addr) (cap:Nat) (w:World):
  Calls Tryz.prog 202 #[.slice A 0 cap,(.func (.func 122) #[] #[])] w fun e w'=>e= .returned (.tuple #[])/\w=w':=unS314
open Go.Proofs.YtiikamobcmgekaaGreatDoor renaming sortNilF_any→Zr
theorem sortF_any (B g cap:Nat) (d:List Frc) (w:World) (h:RowF w B g cap d) (hn:d.length<=1000000000):
  Calls Tryz.prog 202 #[.slice (some ⟨g,0,none⟩) d.length cap,(.func (.func 122) #[] #[])] w fun e w'=>e= .returned (.tuple #[])/\SrtF w B g cap d w':=unS315
open Go.Proofs.YtiikamobcmgekaaGreatDoor renaming sortF_any→Zu
theorem sltF:SlT Tryz.prog 49 103 (.agg #[.string ⟨#[]⟩,.string ⟨#[]⟩,.string ⟨#[]⟩]) 3 48:=⟨by kernel_rfl,by kernel_rfl,by kernel_rfl,by decide⟩
theorem cells_oneF (d:List Frc): ∀u∈d.flatMap Frc.cells,u.oneCell'=true:=by
 intro u hu
 obtain⟨x,_,hx⟩:=List.mem_flatMap.1 hu;simp only[Frc.cells,List.mem_cons,List.not_mem_nil,or_false]at hx;rcases hx with rfl|rfl|rfl<;>rfl
open Go.Proofs.YtiikamobcmgekaaGreatDoor renaming cells_oneF→Zk
theorem cloneNilF_any (n c:Nat) (w:World):Calls Tryz.prog 201 #[.slice none n c] w fun e w'=>e= .returned (.slice none 0 0)/\w=w':=unS316
open Go.Proofs.YtiikamobcmgekaaGreatDoor renaming cloneNilF_any→Zq
theorem cloneF_any (ad:Addr) (c:Nat) (d:List Frc) (w:World) (h:Rd w (.slice (some ad) d.length c) d.length 3 (d.flatMap Frc.cells)) (hn:d.length<=1000000000):
  Calls Tryz.prog 201 #[.slice (some ad) d.length c] w fun e w'=> ∃v',e= .returned v'/\w'.ownsRow w.heap.size 103 3 v' d.length (d.flatMap Frc.cells)/\Below w.heap.size w w':=unS317
open Go.Proofs.YtiikamobcmgekaaGreatDoor renaming cloneF_any→Zt
theorem sameF_any (b:Nat) (x y:Frc) (W:World) (hc:W.cell? ⟨b,0,none⟩=some (.func (.func 122) #[] #[])):Calls Tryz.prog 204 #[(x).agg,(y).agg,.pointer (some ⟨b,0,none⟩)] W (Ret (.bool (cmpP (x).key (y).key==0)) W):=unS318
theorem compactNilF_any (A:Option Addr) (cap:Nat) (f:Value) (w:World):Calls Tryz.prog 203 #[.slice A 0 cap,f] w fun e w'=>e= .returned (.slice A 0 cap)/\w=w':=by
 have hmx:=mxd
 go_enter Tryz.func203,Tryz.ntmps203
 go_wp2_with fail
 go_ret
 exact⟨rfl,rfl⟩
open Go.Proofs.YtiikamobcmgekaaGreatDoor renaming compactNilF_any→Zs
def eqF (y x:Frc):Bool:=cmpP y.key x.key==0
open Go.Proofs.YtiikamobcmgekaaGreatDoor renaming eqF→Zl
def CmpF (w:World) (B g cap:Nat) (d:List Frc) (w':World):Prop:=Turned (fun k=>k=g) w w'/\ ∃E,RowF w' B g cap E/\E.length=d.length/\E.take (compactL eqF d).length=compactL eqF d
open Go.Proofs.YtiikamobcmgekaaGreatDoor renaming CmpF→Zm
theorem run_clear_flatF (w:World) (t e ty:TypeId) (z s:Value) (m:Nat) (ht:Tryz.prog.underlying t=some (.slice e)) (hv: ∀w,(zeroValue e).run Tryz.prog w= .ok z w) (hz:z.cells=Array.replicate m s) (hm:0<m) (h1:s.oneCell'=true) (b o n c:Nat) (hn:0<n)
  (hc: ∀j,j<n*m->(w.cell? ⟨b,o+j,none⟩).isSome=true) (hf: ∀j,j<n*m->w.frozen? ⟨b,o+j,none⟩=false):
  (Builtin.clear_ #[t] ty #[.slice (some ⟨b,o,none⟩) n c]).run Tryz.prog w= .ok (.tuple #[]) (w.setCells b o (List.replicate (n*m) s)):=by
 have hzc:(Builtin.zeroCells z.cells n).toList=List.replicate (n*m) s:=by
  rw[hz]
  simp only[Builtin.zeroCells]
  apply List.ext_getElem
  ·simp
  ·intro i h1 h2
   have hlt:=Nat.mod_lt i hm
   simp
   rw[getElem!_pos _ _ (by simpa using hlt)]
   simp
 have hst:=run_storeCells_cells (P:=Tryz.prog) b o (List.replicate (n*m) s) 0 w (by simpa using hc) (by simpa using hf) (by intro v hv';rw[List.eq_of_mem_replicate hv'];exact h1)
 simp only[Nat.add_zero]at hst
 obtain⟨k,rfl⟩: ∃k,n=k+1:=⟨n-1,by omega⟩
 simp[Builtin.clear_,run_underlying ht,hv,hzc,hst]
theorem setCells_3 (W:World) (g o n:Nat) (s:Value):W.setCells g (o*3) (List.replicate ((n+1)*3) s)=(((W.setCell ⟨g,o*3,none⟩ s).setCell ⟨g,o*3+1,none⟩ s).setCell ⟨g,o*3+2,none⟩ s).setCells g ((o+1)*3) (List.replicate (n*3) s):=by
 rw[show(n+1)*3=n*3+3 by omega,show(o+1)*3=o*3+3 by omega]
 rfl
theorem RowF.clear {B g cap:Nat}: ∀(n o:Nat) (E:List Frc) (W:World),RowF W B g cap E->o+n<=E.length->
  ∃E',RowF (W.setCells g (o*3) (List.replicate (n*3) (sv []))) B g cap E'/\E'.length=E.length/\E'.take o=E.take o/\Turned (fun k=>k=g) W (W.setCells g (o*3) (List.replicate (n*3) (sv []))):=by
 intro n
 induction n with
 |zero=>intro o E W h _;exact⟨E,(by rw[Nat.zero_mul];exact h),rfl,rfl,(by rw[Nat.zero_mul];exact Turned.refl _ _)⟩
 |succ n ih=>
  intro o E W h ho
  obtain⟨E',h1,h2,h3,h4⟩:=ih (o+1) (E.set o (⟨[],[],[]⟩:Frc)) _ (h.set o (by omega) (⟨[],[],[]⟩:Frc)) (by rw[List.length_set];omega)
  rw[setCells_3]
  refine⟨E',h1,by rw[h2,List.length_set], ?_,((((Turned.refl (fun k=>k=g) W).setCell (p:=⟨g,o*3,none⟩) (.inr rfl) (sv [])).setCell (p:=⟨g,o*3+1,none⟩) (.inr rfl) (sv [])).setCell (p:=⟨g,o*3+2,none⟩) (.inr rfl) (sv [])).trans h4⟩
  have h5:=congrArg (List.take o) h3
  rw[List.take_take,List.take_take,Nat.min_eq_left (by omega),List.take_set_of_le (Nat.le_refl _)]at h5
  exact h5
theorem zero_F (w:World):(zeroValue 103).run Tryz.prog w= .ok (.agg #[.string ⟨#[]⟩,.string ⟨#[]⟩,.string ⟨#[]⟩]) w:=by kernel_rfl
theorem compactF_any (B g cap b:Nat) (d:List Frc) (w:World) (h:RowF w B g cap d) (hc:w.cell? ⟨b,0,none⟩=some (.func (.func 122) #[] #[])) (hbg:b≠g) (hn:d.length<=1000000000):
  Calls Tryz.prog 203 #[.slice (some ⟨g,0,none⟩) d.length cap,.func (.func 204) #[] #[.pointer (some ⟨b,0,none⟩)]] w
   fun e w'=>e= .returned (.slice (some ⟨g,0,none⟩) (compactL eqF d).length cap)/\CmpF w B g cap d w':=unS319
open Go.Proofs.YtiikamobcmgekaaGreatDoor renaming compactF_any→Zo
theorem eqF_ev:eqF=ev ltF:=by
 funext y x
 have h1:=cmpP_eq y.key x.key
 have h2:ev ltF y x=ev ltP y.key x.key:=rfl
 have h3:ev ltP y.key x.key=decide (y.key=x.key):=ev_P _ _
 unfold eqF
 rw[h2,h3,<-h1,Bool.eq_iff_iff];simp
open Go.Proofs.YtiikamobcmgekaaGreatDoor renaming eqF_ev→Zn
theorem row_readF {W:World} {B g cap:Nat} {E:List Frc} (h:RowF W B g cap E) (m:Nat) (hm:m<=E.length):Rd W (.slice (some ⟨g,0,none⟩) m cap) m 3 ((E.take m).flatMap Frc.cells):=by
 have h1:=Rd.part (Rd.own h) m hm
 rw[flat_take Frc.cells 3 (fun _=>rfl)]at h1
 exact h1
open Go.Proofs.YtiikamobcmgekaaGreatDoor renaming row_readF→Zp
theorem sorted_compactF (B g cap b:Nat) (d:List Frc) (W W':World) (hs:SrtF W B g cap d W') (hc:W'.cell? ⟨b,0,none⟩=some (.func (.func 122) #[] #[])) (hbg:b≠g) (hn:d.length<=1000000000):
  Calls Tryz.prog 203 #[.slice (some ⟨g,0,none⟩) d.length cap,.func (.func 204) #[] #[.pointer (some ⟨b,0,none⟩)]] W'
   fun e w'=>e= .returned (.slice (some ⟨g,0,none⟩) (neatL ltF d).length cap)/\Turned (fun k=>k=g) W' w'/\Rd w' (.slice (some ⟨g,0,none⟩) (neatL ltF d).length cap) (neatL ltF d).length 3 ((neatL ltF d).flatMap Frc.cells):=unS320
open Go.Proofs.YtiikamobcmgekaaGreatDoor renaming sorted_compactF→Zv
theorem neatF_any (A:Option Addr) (c:Nat) (d:List Frc) (w:World) (h:Rd w (.slice A d.length c) d.length 3 ((d).flatMap Frc.cells)) (hn:d.length<=1000000000):
  Calls Tryz.prog 121 #[.slice A d.length c,(.func (.func 122) #[] #[])] w (RetN w (neatL ltF d).length 3 ((neatL ltF d).flatMap Frc.cells)):=unS321
end Go.Proofs.YtiikamobcmgekaaGreatDoor

