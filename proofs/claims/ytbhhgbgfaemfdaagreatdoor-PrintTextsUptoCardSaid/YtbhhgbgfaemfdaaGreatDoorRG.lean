/- How a policy that came in is opened; Few; awake; Parse of any text told in one way; what the reference makes of a statement. -/
import Derived.ProofKit
import Derived.Deep.Slices
import Derived.Deep.Fields
import Derived.ChangeSame
import Derived.SizedLaws
import Derived.OpenShut
import Derived.BigRegion
import Derived.Test.YtbhhgbgfaemfdaaGreatDoorRows
import Derived.Test.YtbhhgbgfaemfdaaGreatDoorPA
import Derived.Test.YtbhhgbgfaemfdaaGreatDoorRiC
import Derived.Test.YtbhhgbgfaemfdaaGreatDoorRiD
import Derived.Test.YtbhhgbgfaemfdaaGreatDoorS3
import Derived.Test.YtbhhgbgfaemfdaaGreatDoorR4
import Derived.Test.YtbhhgbgfaemfdaaGreatDoorLA
set_option maxRecDepth 100000
set_option maxHeartbeats 4000000
open Bool renaming and_eq_true→z26,false_eq_true→z38,or_eq_false_iff→z30,or_eq_true_iff→z47
open Go.Lib renaming hid→z2g
open List renaming getElem?_eq_getElem→z2r,length_cons→z2j,mem_cons→z3g,setIfInBounds_toArray→z2d,set_cons_succ→z2f,set_cons_zero→z2e
open Nat renaming le_trans→z2k,succ_ne_zero→z4c,zero_le→z48
open Option renaming some→z3n
namespace Go.Proofs.YtbhhgbgfaemfdaaGreatDoor
open Go.ChangeShapes Go.WideShapes Go.Deep
namespace bulks
theorem one_le {H:Type} (d:DataW H):1<=Rows.uptoBulk d:=by
 cases d with
 |lit l=>cases l<;>simp[Rows.uptoBulk]
 |nil=>simp[Rows.uptoBulk]
 |ptr d=>simp[Rows.uptoBulk]
 |slice elems spare=>simp[Rows.uptoBulk]
 |agg parts=>simp[Rows.uptoBulk]
 |iface t d=>simp[Rows.uptoBulk]
 |map entries=>simp[Rows.uptoBulk]
 |held h=>simp[Rows.uptoBulk]
theorem part_le {H:Type} {d:DataW H} {l:List (DataW H)} (h:d∈l):Rows.uptoBulk d<=Rows.uptoBulkAll l:=by
 induction l with
 |nil=>cases h
 |cons x r ih=>
  simp only[Rows.uptoBulkAll]
  cases z3g.1 h with
  |inl e=>subst e;omega
  |inr e=>have:=ih e;omega
theorem length_le {H:Type} (l:List (DataW H)):l.length<=Rows.uptoBulkAll l:=by
 induction l with
 |nil=>simp[Rows.uptoBulkAll]
 |cons x r ih=>have:=one_le x;simp only[Rows.uptoBulkAll,z2j];omega
theorem slice_le {H:Type} (elems spare:List (DataW H)):elems.length<=Rows.uptoBulk (.slice elems spare):=by
 have h1:=length_le elems
 simp only[Rows.uptoBulk]
 omega
theorem elem_le {H:Type} {elems spare:List (DataW H)} {d:DataW H} (h:d∈elems):Rows.uptoBulk d<=Rows.uptoBulk (.slice elems spare):=by
 have h1:=part_le h
 simp only[Rows.uptoBulk]
 omega
theorem field_le {H:Type} {parts:List (DataW H)} {d:DataW H} (h:d∈parts):Rows.uptoBulk d<=Rows.uptoBulk (.agg parts):=by
 have h1:=part_le h
 simp only[Rows.uptoBulk]
 omega
theorem string_le {H:Type} (bytes:List UInt8):bytes.length<=Rows.uptoBulk (DataW.lit (H:=H) (.string bytes)):=by
 simp[Rows.uptoBulk]
theorem bound {H:Type} {l:List (DataW H)} (hk:Rows.uptoSmall H l=true):Rows.uptoBulkAll l<=1048576:=of_decide_eq_true hk
end bulks
theorem zr2 {α:Type} (cells:α->List Value) (n:Nat) (hn: ∀x,(cells x).length=n) (l:List α) (k j:Nat) (hk:k<l.length) (hj:j<n):(l.flatMap cells)[k*n+j]? =(cells l[k])[j]? :=by
 induction l generalizing k with
 |nil=>simp at hk
 |cons x r ih=>
  rw[List.flatMap_cons]
  cases k with
  |zero=>rw[List.getElem?_append_left (by rw[hn];omega)];simp
  |succ k=>
   rw[List.getElem?_append_right (by rw[hn,Nat.succ_mul];omega),hn,show(k+1)*n+j-n=k*n+j by rw[Nat.succ_mul];omega,ih k (by simpa using hk)]
   simp
theorem zop {α:Type} (cells:α->List Value) (n:Nat) (hn: ∀x,(cells x).length=n) (l:List α):(l.flatMap cells).length=l.length*n:=by
 induction l with
 |nil=>simp
 |cons x r ih=>rw[List.flatMap_cons,List.length_append,hn,ih,z2j,Nat.succ_mul];omega
theorem zz1 (l:List Bs):l.flatMap (fun t=>[sv t])=l.map sv:=by
 induction l with
 |nil=>rfl
 |cons x r ih=>rw[List.flatMap_cons,List.map_cons,ih];rfl
section
variable {H:Type} {enc:TypeId × Value->H} {w:World} {base:Nat} {spare:Nat->Bool} {held:Bool}
theorem zjj {α:Type} [Inhabited α] (cells:α->List Value) (mk:(Nat->Bs)->α) (n:Nat) (hmk: ∀f,cells (mk f)=(List.range n).map fun j=>sv (f j)) (hlen: ∀x,(cells x).length=n) (hp:0<n) {t e:TypeId} (ht:Tryz.prog.underlying t=some (.slice e)) (hC:Tryz.prog.cellsOf e=n)
  (hel: ∀{fuel:Nat} {cs:List Value} {y:DataW H × List MemPlace},DataW.trod enc Tryz.prog w base spare held fuel e cs=some y-> ∃f:Nat->Bs,cs=(List.range n).map (fun j=>sv (f j))/\ ∀j,j<n->(f j).length<=Rows.uptoBulk y.1)
  {fuel:Nat} {v:Value} {x:DataW H × List MemPlace} (h:DataW.trod enc Tryz.prog w base spare held fuel t [v]=some x):
  ∃l:List α,Rx w (fun _=>False) v l.length n (l.flatMap cells)/\l.length<=Rows.uptoBulk x.1/\ ∀y∈l,∃f:Nat->Bs,y=mk f/\ ∀j,j<n->(f j).length<=Rows.uptoBulk x.1:=by
 rcases open_slice ht h with⟨hcs,rfl⟩|⟨a,len,cap,m,n',D,Pl,hcs,hb,hl,hm,hmm,hx,hi⟩
 ·simp at hcs
  subst hcs
  exact⟨[],⟨none,0,rfl,⟨fun _=>rfl,Nat.le_refl _⟩,Rd.nil _ _,fun h=>absurd h (Nat.lt_irrefl 0)⟩,z48 _,fun _ h=>(by cases h)⟩
 ·simp at hcs
  subst hcs
  have hml:len<=m:=by rw[hmm];split<;>omega
  have hlm:len<=9223372036854775807:=by unfold maxLen at hm;omega
  by_cases h0:len=0
  ·subst h0
   exact⟨[],⟨some a,cap,rfl,⟨fun h=>(by cases h),z48 _⟩,Rd.empty,fun h=>absurd h (Nat.lt_irrefl 0)⟩,z48 _,fun _ h=>(by cases h)⟩
  ·have key: ∀i,i<len-> ∃f:Nat->Bs,(∀j,j<n->w.cell? (a.add (i*n+j))=some (sv (f j))/\(f j).length<=Rows.uptoBulk x.1):=by
    intro i him
    obtain⟨cs',hc,ht'⟩:=hi i (by omega)
    rw[hC]at hc
    obtain⟨f,hf,hfl⟩:=hel ht'
    obtain⟨_,hcl,hat⟩:=World.cells?_some hc
    refine⟨f,fun j hj=>⟨?_,z2k (hfl j hj) ?_⟩⟩
    ·rw[<-Go.Deep.add_add,hat j hj,hf]
     simp[hj]
    ·rw[hx]
     exact bulks.elem_le (List.mem_map.2 ⟨i,List.mem_range.2 him,rfl⟩)
   obtain⟨b,off,spot⟩:=a
   obtain⟨f0,hf0⟩:=key 0 (by omega)
   have hspot:spot=none:=by simpa[Addr.add]using World.cell?_spot (hf0 0 hp).1
   subst hspot
   have hadd: ∀k,(⟨b,off,none⟩:Addr).add k=⟨b,off+k,none⟩:=fun k=>by unfold Addr.add;split<;>simp_all
   obtain⟨l,hll,hl2⟩: ∃l:List α,l.length=len/\ ∀i (hi:i<l.length),∃f:Nat->Bs,l[i]=mk f/\ ∀j,j<n->w.cell? ⟨b,off+(i*n+j),none⟩=some (sv (f j))/\(f j).length<=Rows.uptoBulk x.1:=by
    refine zqx (p:=fun i y=> ∃f:Nat->Bs,y=mk f/\ ∀j,j<n->w.cell? ⟨b,off+(i*n+j),none⟩=some (sv (f j))/\(f j).length<=Rows.uptoBulk x.1) fun i hi=> ?_
    obtain⟨f,hf⟩:=key i hi
    exact⟨mk f,f,rfl,fun j hj=>by rw[<-hadd];exact hf j hj⟩
   subst hll
   refine⟨l,⟨some ⟨b,off,none⟩,cap,rfl,⟨fun h=>(by cases h),hl⟩,⟨zop cells n hlen l,hlm,some ⟨b,off,none⟩,cap,rfl,fun h9=>⟨b,off,rfl, ?_,fun j u hu=> ?_⟩⟩,fun _ _ _ _ _ hh=>hh⟩, ?_,fun y hy=> ?_⟩
   ·obtain⟨f,_,hc⟩:=hl2 0 h9
    exact World.block_lt_of_cell? w _ (hc 0 hp).1
   ·have hj:j<l.length*n:=by rw[<-zop cells n hlen l];exact(List.getElem?_eq_some_iff.1 hu).1
    have hn0:0<n:=hp
    have e9:j=j/n*n+j%n:=by rw[Nat.mul_comm];exact(Nat.div_add_mod j n).symm
    have hk:j/n<l.length:=Nat.div_lt_of_lt_mul (by rw[Nat.mul_comm];exact hj)
    have hr:j%n<n:=Nat.mod_lt _ hn0
    obtain⟨f,hf,hc⟩:=hl2 (j/n) hk
    rw[e9,zr2 cells n hlen l _ _ hk hr,hf,hmk]at hu
    simp only[List.getElem?_map,List.getElem?_range hr,Option.map_some,z3n.injEq]at hu
    rw[<-hu]
    have h8:=(hc _ hr).1
    rwa[<-e9]at h8
   ·rw[hx]
    refine z2k ?_ (bulks.slice_le _ _)
    simp
   ·obtain⟨i,hi',rfl⟩:=List.getElem_of_mem hy
    obtain⟨f,hf,hc⟩:=hl2 i hi'
    exact⟨f,hf,fun j hj=>(hc j hj).2⟩
theorem str_el {fuel:Nat} {cs:List Value} {y:DataW H × List MemPlace} (h:DataW.trod enc Tryz.prog w base spare held fuel 9 cs=some y): ∃f:Nat->Bs,cs=(List.range 1).map (fun j=>sv (f j))/\ ∀j,j<1->(f j).length<=Rows.uptoBulk y.1:=by
 obtain⟨s,rfl,rfl,_⟩:=DataW.trod_string Tryz.underlying9 h
 exact⟨fun _=>s.data.toList,rfl,fun _ _=>bulks.string_le _⟩
theorem znd {e:TypeId} {fs:Array Field} {n:Nat} (hs:Tryz.prog.underlying e=some (.struct fs)) (hone:oneCellFields Tryz.prog fs=true) (hC:Tryz.prog.cellsOf e=n) (hn:fs.size=n) (hstr: ∀(j:Nat) f,fs[j]? =some f->Tryz.prog.underlying f.type=some .string)
  {fuel:Nat} {cs:List Value} {y:DataW H × List MemPlace} (h:DataW.trod enc Tryz.prog w base spare held fuel e cs=some y): ∃f:Nat->Bs,cs=(List.range n).map (fun j=>sv (f j))/\ ∀j,j<n->(f j).length<=Rows.uptoBulk y.1:=by
 obtain⟨ys,n2,hn2,hy,hlen',hyl,hf⟩:=DataW.trod_struct hs h
 rw[hC]at hlen'
 obtain⟨f,hff⟩:=choose_lt (α:=Bs) (n:=n) (p:=fun j t=>cs[j]? =some (sv t)/\t.length<=Rows.uptoBulk y.1) (fun j hj=>by
  have hfj:fs[j]? =some (fs[j]'(by omega)):=Array.getElem?_eq_getElem (by omega)
  obtain⟨ho,hk⟩:=hone_of hone j _ hfj
  have h1:=hf j _ hfj
  rw[ho,hk]at h1
  have hone':(cs.drop j).take 1=[cs[j]'(by omega)]:=by
   rw[List.drop_eq_getElem_cons (by omega)]
   rfl
  have hys:ys[j]? =some (ys[j]'(by omega)):=z2r (by omega)
  rw[hone',hys]at h1
  obtain⟨s,e1,e2,_⟩:=DataW.trod_string (hstr j _ hfj) h1
  simp at e1
  refine⟨s.data.toList,by rw[z2r (by omega),e1];rfl, ?_⟩
  rw[hy]
  refine z2k ?_ (bulks.field_le (d:=(ys[j]'(by omega)).1) (List.mem_map.2 ⟨_,List.getElem_mem _,rfl⟩))
  rw[e2]
  exact bulks.string_le _)
 refine⟨f, ?_,fun j hj=>(hff j hj).2⟩
 refine List.ext_getElem? fun j=> ?_
 by_cases hj:j<n
 ·rw[(hff j hj).1];simp[hj]
 ·rw[List.getElem?_eq_none (by omega),List.getElem?_eq_none (by simp;omega)]
instance:Inhabited Alw:=⟨⟨[],[]⟩⟩
instance:Inhabited Frc:=⟨⟨[],[],[]⟩⟩
theorem zgq {fuel:Nat} {v:Value} {x:DataW H × List MemPlace} (h:DataW.trod enc Tryz.prog w base spare held fuel 39 [v]=some x):
  ∃l:List Bs,Rx w (fun _=>False) v l.length 1 (l.map sv)/\l.length<=Rows.uptoBulk x.1/\ ∀t∈l,t.length<=Rows.uptoBulk x.1:=by
 obtain⟨l,h1,h2,h3⟩:=zjj (fun t:Bs=>[sv t]) (fun f=>f 0) 1 (fun _=>rfl) (fun _=>rfl) (by omega) Tryz.underlying39 (by kernel_rfl) (fun h=>str_el h) h
 refine⟨l, ?_,h2,fun t ht=> ?_⟩
 ·rw[<-zz1 l];exact h1
 ·obtain⟨f,rfl,hf⟩:=h3 t ht
  exact hf 0 (by omega)
theorem zt8: ∃f0 f1:Field,Tryz.prog.underlying 80=some (.struct #[f0,f1])/\f0.type=9/\f1.type=9/\oneCellFields Tryz.prog #[f0,f1]=true:=
 ⟨_,_,Tryz.underlying80,rfl,rfl,by kernel_rfl⟩
theorem ztl: ∃f0 f1 f2:Field,Tryz.prog.underlying 72=some (.struct #[f0,f1,f2])/\f0.type=9/\f1.type=9/\f2.type=9/\oneCellFields Tryz.prog #[f0,f1,f2]=true:=
 ⟨_,_,_,Tryz.underlying72,rfl,rfl,rfl,by kernel_rfl⟩
theorem zx4 {fuel:Nat} {v:Value} {x:DataW H × List MemPlace} (h:DataW.trod enc Tryz.prog w base spare held fuel 40 [v]=some x):
  ∃l:List Alw,Rx w (fun _=>False) v l.length 2 (l.flatMap Alw.cells)/\l.length<=Rows.uptoBulk x.1/\ ∀a∈l,a.tag.length<=Rows.uptoBulk x.1/\a.name.length<=Rows.uptoBulk x.1:=by
 obtain⟨f0,f1,hs,t0,t1,hone⟩:=zt8
 obtain⟨l,h1,h2,h3⟩:=zjj Alw.cells (fun f=>⟨f 0,f 1⟩) 2 (fun _=>rfl) (fun _=>rfl) (by omega) Tryz.underlying40 (by kernel_rfl) (fun h=>znd hs hone (by kernel_rfl) rfl (fun j f hj=>by
  match j,hj with
  |0,hj=>obtain rfl:f0=f:=z3n.inj hj;rw[t0];exact Tryz.underlying9
  |1,hj=>obtain rfl:f1=f:=z3n.inj hj;rw[t1];exact Tryz.underlying9
  |j+2,hj=>simp at hj) h) h
 exact⟨l,h1,h2,fun a ha=>by obtain⟨f,rfl,hf⟩:=h3 a ha;exact⟨hf 0 (by omega),hf 1 (by omega)⟩⟩
theorem zxe {fuel:Nat} {v:Value} {x:DataW H × List MemPlace} (h:DataW.trod enc Tryz.prog w base spare held fuel 41 [v]=some x):
  ∃l:List Frc,Rx w (fun _=>False) v l.length 3 (l.flatMap Frc.cells)/\l.length<=Rows.uptoBulk x.1/\ ∀a∈l,a.tag.length<=Rows.uptoBulk x.1/\a.name.length<=Rows.uptoBulk x.1/\a.value.length<=Rows.uptoBulk x.1:=by
 obtain⟨f0,f1,f2,hs,t0,t1,t2,hone⟩:=ztl
 obtain⟨l,h1,h2,h3⟩:=zjj Frc.cells (fun f=>⟨f 0,f 1,f 2⟩) 3 (fun _=>rfl) (fun _=>rfl) (by omega) Tryz.underlying41 (by kernel_rfl) (fun h=>znd hs hone (by kernel_rfl) rfl (fun j f hj=>by
  match j,hj with
  |0,hj=>obtain rfl:f0=f:=z3n.inj hj;rw[t0];exact Tryz.underlying9
  |1,hj=>obtain rfl:f1=f:=z3n.inj hj;rw[t1];exact Tryz.underlying9
  |2,hj=>obtain rfl:f2=f:=z3n.inj hj;rw[t2];exact Tryz.underlying9
  |j+3,hj=>simp at hj) h) h
 exact⟨l,h1,h2,fun a ha=>by obtain⟨f,rfl,hf⟩:=h3 a ha;exact⟨hf 0 (by omega),hf 1 (by omega),hf 2 (by omega)⟩⟩
structure zdz (p:Pol) (n:Nat):Prop where
 rows: ∀j,j<6->fN p j<=n
 tags: ∀t∈p.tags,t.length<=n
 schemes: ∀t∈p.schemes,t.length<=n
 css: ∀t∈p.css,t.length<=n
 drops: ∀t∈p.drops,t.length<=n
 attrs: ∀a∈p.attrs,a.tag.length<=n/\a.name.length<=n
 forces: ∀a∈p.forces,a.tag.length<=n/\a.name.length<=n/\a.value.length<=n
theorem zsz: ∃f0 f1 f2 f3 f4 f5 f6 f7 f8 f9:Field,Tryz.prog.underlying 43=some (.struct #[f0,f1,f2,f3,f4,f5,f6,f7,f8,f9])/\f0.type=39/\f1.type=39/\f2.type=39/\f3.type=39/\f4.type=40/\f5.type=41/\f6.type=4/\f7.type=3/\f8.type=3/\f9.type=3/\oneCellFields Tryz.prog #[f0,f1,f2,f3,f4,f5,f6,f7,f8,f9]=true:=
 ⟨_,_,_,_,_,_,_,_,_,_,Tryz.underlying43,rfl,rfl,rfl,rfl,rfl,rfl,rfl,rfl,rfl,rfl,by kernel_rfl⟩
theorem z0n {α:Type} {l:List α} (h:l.length=10): ∃a0 a1 a2 a3 a4 a5 a6 a7 a8 a9,l=[a0,a1,a2,a3,a4,a5,a6,a7,a8,a9]:=by
 rcases l with _|⟨a0,_|⟨a1,_|⟨a2,_|⟨a3,_|⟨a4,_|⟨a5,_|⟨a6,_|⟨a7,_|⟨a8,_|⟨a9,_|⟨a10,r⟩⟩⟩⟩⟩⟩⟩⟩⟩⟩⟩
 ·simp at h
 ·simp at h
 ·simp at h
 ·simp at h
 ·simp at h
 ·simp at h
 ·simp at h
 ·simp at h
 ·simp at h
 ·simp at h
 ·exact⟨a0,a1,a2,a3,a4,a5,a6,a7,a8,a9,rfl⟩
 ·simp at h
theorem zmf {fuel:Nat} {cs:List Value} {x:DataW H × List MemPlace} (h:DataW.trod enc Tryz.prog w base spare held fuel 43 cs=some x):
  ∃p:Pol,PolV w (fun _=>False) (.agg cs.toArray) p/\zdz p (Rows.uptoBulk x.1):=by
 obtain⟨f0,f1,f2,f3,f4,f5,f6,f7,f8,f9,hs,t0,t1,t2,t3,t4,t5,t6,t7,t8,t9,hone⟩:=zsz
 obtain⟨ys,n2,hn2,hy,hlen',hyl,hf⟩:=DataW.trod_struct hs h
 have hcl:cs.length=10:=by rw[hlen'];kernel_rfl
 have hyl10:ys.length=10:=hyl
 obtain⟨v0,v1,v2,v3,v4,v5,v6,v7,v8,v9,rfl⟩: ∃v0 v1 v2 v3 v4 v5 v6 v7 v8 v9,cs=[v0,v1,v2,v3,v4,v5,v6,v7,v8,v9]:=z0n hcl
 obtain⟨y0,y1,y2,y3,y4,y5,y6,y7,y8,y9,rfl⟩: ∃y0 y1 y2 y3 y4 y5 y6 y7 y8 y9,ys=[y0,y1,y2,y3,y4,y5,y6,y7,y8,y9]:=z0n hyl10
 have hg: ∀(j:Nat) f,#[f0,f1,f2,f3,f4,f5,f6,f7,f8,f9][j]? =some f->DataW.trod enc Tryz.prog w base spare held n2 f.type (([v0,v1,v2,v3,v4,v5,v6,v7,v8,v9].drop j).take 1)=[y0,y1,y2,y3,y4,y5,y6,y7,y8,y9][j]? :=fun j f hj=>by
  obtain⟨ho,hk⟩:=hone_of hone j f hj
  have:=hf j f hj
  rwa[ho,hk]at this
 have g0:=hg 0 f0 rfl
 have g1:=hg 1 f1 rfl
 have g2:=hg 2 f2 rfl
 have g3:=hg 3 f3 rfl
 have g4:=hg 4 f4 rfl
 have g5:=hg 5 f5 rfl
 have g6:=hg 6 f6 rfl
 have g7:=hg 7 f7 rfl
 have g8:=hg 8 f8 rfl
 have g9:=hg 9 f9 rfl
 rw[t0]at g0
 rw[t1]at g1
 rw[t2]at g2
 rw[t3]at g3
 rw[t4]at g4
 rw[t5]at g5
 rw[t6]at g6
 rw[t7]at g7
 rw[t8]at g8
 rw[t9]at g9
 obtain⟨l0,r0,b0,c0⟩:=zgq g0
 obtain⟨l1,r1,b1,c1⟩:=zgq g1
 obtain⟨l2,r2,b2,c2⟩:=zgq g2
 obtain⟨l3,r3,b3,c3⟩:=zgq g3
 obtain⟨l4,r4,b4,c4⟩:=zx4 g4
 obtain⟨l5,r5,b5,c5⟩:=zxe g5
 obtain⟨rel,e6,_⟩:=DataW.trod_bool Tryz.underlying4 g6
 obtain⟨n7,e7,_⟩:=DataW.trod_int Tryz.underlying3 g7
 obtain⟨n8,e8,_⟩:=DataW.trod_int Tryz.underlying3 g8
 obtain⟨n9,e9,_⟩:=DataW.trod_int Tryz.underlying3 g9
 simp at e6 e7 e8 e9
 subst e6 e7 e8 e9
 have hb: ∀y∈[y0,y1,y2,y3,y4,y5,y6,y7,y8,y9],Rows.uptoBulk y.1<=Rows.uptoBulk x.1:=fun y hm=>by
  rw[hy]
  exact bulks.field_le (List.mem_map.2 ⟨y,hm,rfl⟩)
 have k0:=hb y0 (by simp)
 have k1:=hb y1 (by simp)
 have k2:=hb y2 (by simp)
 have k3:=hb y3 (by simp)
 have k4:=hb y4 (by simp)
 have k5:=hb y5 (by simp)
 refine⟨⟨l0,l1,l2,l3,l4,l5,rel,n7,n8,n9⟩,⟨v0,v1,v2,v3,v4,v5,rfl,r0,r1,r2,r3,r4,r5⟩,fun j hj=> ?_,fun t ht=>z2k (c0 t ht) k0,fun t ht=>z2k (c1 t ht) k1,fun t ht=>z2k (c2 t ht) k2,fun t ht=>z2k (c3 t ht) k3,fun a ha=>⟨z2k (c4 a ha).1 k4,z2k (c4 a ha).2 k4⟩,fun a ha=>⟨z2k (c5 a ha).1 k5,z2k (c5 a ha).2.1 k5,z2k (c5 a ha).2.2 k5⟩⟩
 rcases(by omega:j=0\/j=1\/j=2\/j=3\/j=4\/j=5)with rfl|rfl|rfl|rfl|rfl|rfl
 ·exact z2k b0 k0
 ·exact z2k b1 k1
 ·exact z2k b2 k2
 ·exact z2k b3 k3
 ·exact z2k b4 k4
 ·exact z2k b5 k5
end
end Go.Proofs.YtbhhgbgfaemfdaaGreatDoor
namespace Go.Proofs.YtbhhgbgfaemfdaaGreatDoor
open Go.RowKit
attribute [local go_sem] Oper.semAt_some
theorem zrq {P:Program} {W:World} {o:Oper} {a:Act} {K:Act->World->Prop} {Q:Exit->Act->World->Prop} (hg:o.guard=none) (s x:Operand) (t:TypeId)
  (ho:o.op= .call {callee:= .builtin .append,args:= #[s,x],argTypes:= #[t,t]})
  {e:TypeId} {z:Value} {size bytes:Nat} (row:SlT P t e z size bytes) (w0:World) {v:Value} {n:Nat} {xs:List Value} (hs:a.eval s=v) (hown:W.ownsRow w0.heap.size e size v n xs)
  (hb:Below w0.heap.size w0 W) (m:Nat) (news:List Value)
  (hx:(a.eval x= .slice none 0 0/\m=0)\/ ∃ad c,a.eval x= .slice (some ad) m c/\ ∀j u,news[j]? =some u->W.cell? (ad.add j)=some u) (hl:news.length=m*size)
  (h1: ∀u∈news,u.oneCell'=true) (h63:n+m<=maxLen) (hbytes:(n+m)*bytes<=140737488355328)
  (h: ∀v' W',W'.ownsRow w0.heap.size e size v' (n+m) (xs++news)->W.grownBy W' v.ownBlock->Hid (Below w0.heap.size w0 W')->K (a.put o.dst v') W'):Oper.wp P o a W K Q:=by
 have hw:Region.wanted o (yielded #[] a.tmps)=true:=by simp[Region.wanted,hg]
 have h9:=zvi (E:=True) (Q:=Q) hw s x t ho row w0 hs hown hb m news hx hl h1 h63 hbytes h
 rwa[if_pos hw]at h9
def fewL (p:Pol):List Bs:=p.tags++p.schemes++p.css++p.drops++p.forces.map Frc.value
def fewP (p:Pol):Bool:=(fewL p).all (fun t=>decide (t.length<=300))&&(decide ((fewL p).length<=900)&&(decide (p.attrs.length<=210)&&decide (p.forces.length<=210)))
theorem zl2 (l:List Bs): ∀u∈l.map sv,u.oneCell'=true:=by
 intro u hu
 obtain⟨t,_,rfl⟩:=List.mem_map.1 hu
 rfl
theorem zmb (v:Value) (p:Pol) (w:World) (h:PolV w (fun _=>False) v p) (hk:zdz p 1048576):Calls Tryz.prog 30 #[v] w (Ret (.bool (fewP p)) w):=by
 have hmx:Tryz.prog.follows .mixedOrders=true:=by kernel_rfl
 have b0:fN p 0<=1048576:=hk.rows 0 (by omega)
 have b1:fN p 1<=1048576:=hk.rows 1 (by omega)
 have b2:fN p 2<=1048576:=hk.rows 2 (by omega)
 have b3:fN p 3<=1048576:=hk.rows 3 (by omega)
 have b5:fN p 5<=1048576:=hk.rows 5 (by omega)
 have HE:Hid (fewP p=((fewL p).all (fun t=>decide (t.length<=300))&&(decide ((fewL p).length<=900)&&(decide (p.attrs.length<=210)&&decide (p.forces.length<=210))))):=rfl
 obtain⟨v0,v1,v2,v3,v4,v5,rfl,⟨A0,k0,rfl,n0,h0,_⟩,⟨A1,k1,rfl,n1,h1,_⟩,⟨A2,k2,rfl,n2,h2,_⟩,⟨A3,k3,rfl,n3,h3,_⟩,⟨A4,k4,rfl,_,h4,_⟩,⟨A5,k5,rfl,_,h5,_⟩⟩:=h
 have H0:=z2g h0
 have H1:=z2g h1
 have H2:=z2g h2
 have H3:=z2g h3
 have H5:=z2g h5
 obtain⟨R,hR⟩: ∃R,fewP p=R:=⟨_,rfl⟩
 rw[hR]at HE ⊢
 clear hR hk h0 h1 h2 h3 h4 h5
 go_enter Tryz.func30,Tryz.ntmps30
 go_upto_region 1 with fail
 refine zaf fun W0 hW0=> ?_
 obtain⟨B,hB⟩: ∃B,w.heap.size=B:=⟨_,rfl⟩
 rw[hB]
 have hb0:Below w.heap.size w W0:=by rw[hW0];exact bel
 have c0:W0.cell? ⟨B,0,none⟩=some (.slice A0 (fN p 0) k0):=by rw[hW0,<-hB];simp[go_sem]
 have c1:W0.cell? ⟨B,1,none⟩=some (.slice A1 (fN p 1) k1):=by rw[hW0,<-hB];simp[go_sem]
 have c2:W0.cell? ⟨B,2,none⟩=some (.slice A2 (fN p 2) k2):=by rw[hW0,<-hB];simp[go_sem]
 have c3:W0.cell? ⟨B,3,none⟩=some (.slice A3 (fN p 3) k3):=by rw[hW0,<-hB];simp[go_sem]
 have c4:W0.cell? ⟨B,4,none⟩=some (.slice A4 (fN p 4) k4):=by rw[hW0,<-hB];simp[go_sem]
 have c5:W0.cell? ⟨B,5,none⟩=some (.slice A5 (fN p 5) k5):=by rw[hW0,<-hB];simp[go_sem]
 have hBl:B<W0.heap.size:=by rw[hW0,<-hB];simp
 have r0:=H0.out.belowX hb0
 have r1:=H1.out.belowX hb0
 have r2:=H2.out.belowX hb0
 have r3:=H3.out.belowX hb0
 have hS0:Below W0.heap.size W0 W0.drew:=bel
 have HB0:=z2g hb0
 clear hW0 hb0
 refine zai 13 [(1,true),(2,true),(4,true),(5,true),(7,true),(8,true),(10,true),(11,true),(0,false),(3,false),(6,false),(9,false),(12,false)] (fun V=>Below W0.heap.size W0 V) hmx (by kernel_rfl) (by kernel_rfl) (by kernel_rfl) (by decide) rfl (fun c a d v w h=>by obtain⟨x,y⟩:=(h:_/\_);cases d<;>exact⟨x,y⟩) (by kernel_rfl) (by exact hS0) ?_
 refine zaa (v:= .pointer (some ⟨B,0,none⟩)) 7 rfl rfl rfl (fun W hW=>by simp[execOp,go_sem]) ?_
 simp only[Act.put,z2d,z2f,z2e]
 refine zaa (v:= .slice A0 (fN p 0) k0) 8 rfl rfl rfl (fun W hW=>by have d:=(hW.cell (p:=⟨B,0,none⟩) hBl).trans c0;simp[execOp,go_sem,d]) ?_
 simp only[Act.put,z2d,z2f,z2e]
 refine zaa (v:= .pointer (some ⟨B,1,none⟩)) 10 rfl rfl rfl (fun W hW=>by simp[execOp,go_sem]) ?_
 simp only[Act.put,z2d,z2f,z2e]
 refine zaa (v:= .slice A1 (fN p 1) k1) 11 rfl rfl rfl (fun W hW=>by have d:=(hW.cell (p:=⟨B,1,none⟩) hBl).trans c1;simp[execOp,go_sem,d]) ?_
 simp only[Act.put,z2d,z2f,z2e]
 refine zaa (v:= .pointer (some ⟨B,2,none⟩)) 13 rfl rfl rfl (fun W hW=>by simp[execOp,go_sem]) ?_
 simp only[Act.put,z2d,z2f,z2e]
 refine zaa (v:= .slice A2 (fN p 2) k2) 14 rfl rfl rfl (fun W hW=>by have d:=(hW.cell (p:=⟨B,2,none⟩) hBl).trans c2;simp[execOp,go_sem,d]) ?_
 simp only[Act.put,z2d,z2f,z2e]
 refine zaa (v:= .pointer (some ⟨B,3,none⟩)) 16 rfl rfl rfl (fun W hW=>by simp[execOp,go_sem]) ?_
 simp only[Act.put,z2d,z2f,z2e]
 refine zaa (v:= .slice A3 (fN p 3) k3) 17 rfl rfl rfl (fun W hW=>by have d:=(hW.cell (p:=⟨B,3,none⟩) hBl).trans c3;simp[execOp,go_sem,d]) ?_
 simp only[Act.put,z2d,z2f,z2e]
 refine zaj rfl rfl fun Kc hKc=> ?_
 unfold Oper.wp
 simp[execOp,go_sem]
 apply hKc
 have hS1:Below W0.heap.size W0 (W0.drew.alloc (.cells #[] 9)):=bel
 have ho1:(W0.drew.alloc (.cells #[] 9)).ownsRow W0.heap.size 9 1 (.slice (some ⟨W0.heap.size,0,none⟩) 0 0) 0 []:=z1p (by simp[go_sem]) (by simp[go_sem])
 refine⟨hS1, ?_⟩
 refine zaj rfl rfl fun Kc hKc=> ?_
 refine zrq (n:=0) (xs:=([]:List Value)) rfl _ _ 39 rfl sltS W0 rfl ho1 hS1 (fN p 0) (fC p 0) (zc1 r0 n0.1 hS1) r0.1 (zl2 _) (by unfold maxLen;omega) (by omega) ?_
 intro va0 Va0 ho2 _ hS2
 have hS2:=hS2.out
 apply hKc
 refine⟨hS2, ?_⟩
 simp only[Act.put,z2d]
 refine zaj rfl rfl fun Kc hKc=> ?_
 refine zrq (n:=(0+fN p 0)) (xs:=([]++fC p 0)) rfl _ _ 39 rfl sltS W0 rfl ho2 hS2 (fN p 1) (fC p 1) (zc1 r1 n1.1 hS2) r1.1 (zl2 _) (by unfold maxLen;omega) (by omega) ?_
 intro va1 Va1 ho3 _ hS3
 have hS3:=hS3.out
 apply hKc
 refine⟨hS3, ?_⟩
 simp only[Act.put]
 refine zaj rfl rfl fun Kc hKc=> ?_
 refine zrq (n:=(0+fN p 0+fN p 1)) (xs:=([]++fC p 0++fC p 1)) rfl _ _ 39 rfl sltS W0 rfl ho3 hS3 (fN p 2) (fC p 2) (zc1 r2 n2.1 hS3) r2.1 (zl2 _) (by unfold maxLen;omega) (by omega) ?_
 intro va2 Va2 ho4 _ hS4
 have hS4:=hS4.out
 apply hKc
 refine⟨hS4, ?_⟩
 simp only[Act.put]
 refine zaj rfl rfl fun Kc hKc=> ?_
 refine zrq (n:=(0+fN p 0+fN p 1+fN p 2)) (xs:=([]++fC p 0++fC p 1++fC p 2)) rfl _ _ 39 rfl sltS W0 rfl ho4 hS4 (fN p 3) (fC p 3) (zc1 r3 n3.1 hS4) r3.1 (zl2 _) (by unfold maxLen;omega) (by omega) ?_
 intro va3 Va3 ho5 _ hS5
 have hS5:=hS5.out
 apply hKc
 refine⟨hS5, ?_⟩
 dsimp only[zbe,List.drop]
 have HS5:=z2g hS5
 have HLB:Hid (p.tags++p.schemes++p.css++p.drops=p.tags++p.schemes++p.css++p.drops):=rfl
 obtain⟨LB,hLB⟩: ∃LB,p.tags++p.schemes++p.css++p.drops=LB:=⟨_,rfl⟩
 have hmB:0+fN p 0+fN p 1+fN p 2+fN p 3=LB.length:=by rw[<-hLB];simp[fN];omega
 have hxB:([]:List Value)++fC p 0++fC p 1++fC p 2++fC p 3=LB.map sv:=by rw[<-hLB];simp[fC]
 have hbB:LB.length<=4194304:=by omega
 rw[hmB,hxB]at ho5
 have HO5:=z2g ho5
 have HFL:Hid (fewL p=LB++p.forces.map Frc.value):=by show _=_;rw[<-hLB];rfl
 clear hmB hxB hLB HLB ho1 ho2 ho3 ho4 ho5 hS0 hS1 hS2 hS3 hS4 hS5 r0 r1 r2 r3 c0 c1 c2 c3 n0 n1 n2 n3 H0 H1 H2 H3 b0 b1 b2 b3
 obtain⟨n5,hn5⟩: ∃n,fN p 5=n:=⟨_,rfl⟩
 have HN5:=z2g hn5
 obtain⟨mB,hmB⟩: ∃m,LB.length=m:=⟨_,rfl⟩
 have HMB:=z2g hmB
 rw[hn5]at c5 b5
 rw[hmB]at hbB HO5
 clear hn5 hmB
 go_wp2_with fail
 go_loopw [3,4] (fun v i wr=> ∃k:Nat,k<=n5/\i= .int .i64 (k:Nat)/\Hid (wr.ownsRow W0.heap.size 9 1 v (mB+k) ((LB++(p.forces.map Frc.value).take k).map sv))/\Hid (Below W0.heap.size W0 wr)) (fun _ i _=>n5-(intOf i).toNat)
 case atStart=>exact⟨0,by omega,rfl,by show World.ownsRow _ _ _ _ _ _ _;rw[List.take_zero,List.append_nil];exact HO5.out,HS5.out⟩
 case round=>
  clear HO5 HS5
  obtain⟨k,hk,rfl,HO,HB⟩:=hrel
  have d5:=(HB.out.cell (p:=⟨B,5,none⟩) hBl).trans c5
  have hszw:=HB.out.size
  have HBw:=z2g (HB0.out.trans (HB.out.mono HB0.out.size))
  have hBr:B<wr.heap.size:=Nat.lt_of_lt_of_le hBl hszw
  by_cases hlt:k<n5
  ·have hkl:k<p.forces.length:=by show k<fN p 5;rw[HN5.out];exact hlt
   obtain⟨b,off,hAd,hb,hc⟩: ∃b off,A5=some ⟨b,off,none⟩/\b<w.heap.size/\ ∀i u,(fC p 5)[i]? =some u->w.cell? ⟨b,off+i,none⟩=some u:=by
    obtain⟨_,_,A',c',e,h4⟩:=H5.out
    cases e
    exact h4 (by rw[HN5.out];omega)
   subst hAd
   obtain⟨x,hx⟩: ∃x,p.forces[k]=x:=⟨_,rfl⟩
   have x2:wr.cell? ⟨b,off+k*3+2,none⟩=some (.string ⟨x.value.toArray⟩):=by
    have h9:=hc (k*3+2) (sv x.value) (by show(p.forces.flatMap Frc.cells)[k*3+2]? =_;rw[za4 Frc.cells 3 zb2 p.forces k 2 hkl (by omega),hx];rfl)
    exact(HBw.out.cell hb).trans ((congrArg (fun i=>w.cell? ⟨b,i,none⟩) (by omega)).trans h9)
   have hbr:b<wr.heap.size:=Nat.lt_of_lt_of_le hb HBw.out.size
   have htk:(LB++(p.forces.map Frc.value).take (k+1)).map sv=(LB++(p.forces.map Frc.value).take k).map sv++[.string ⟨x.value.toArray⟩]:=by
    rw[List.take_succ_eq_append_getElem (by simpa using hkl),<-List.append_assoc,List.map_append]
    simp[hx,sv]
   have HTk:=z2g htk
   clear hc hx htk
   generalize(⟨x.value.toArray⟩:ByteArray)=ts at*
   obtain⟨AL,cL,rfl,_⟩:=zam HO.out
   go_wp2_with(at_builtin;refine zat rfl _ _ 39 rfl sltS W0.heap.size rfl (HO.out.alloc _) (by simp[go_sem]<;>omega) ⟨_,0,none⟩ 1 1 [.string ts] rfl rfl (zan (c:= #[.string ts]) (by simp[go_sem])) (by simp[Value.oneCell']) (by unfold maxLen;omega) (by omega) ?_;intro v6 W6 ho6 hg6;have HO6:=z2g ho6;have HB6:=zao (size:=1) hg6 (HO.out.alloc _) (HB.out.alloc hszw _);clear ho6 hg6)
   go_roundw
   case rel=>exact⟨k+1,by omega,by go_num,by show World.ownsRow _ _ _ _ _ _ _;rw[HTk.out];exact HO6.out,HB6.out⟩
   case measure=>simp[intOf];omega
  ·have hkn:k=n5:=by omega
   subst hkn
   have hfull:LB++(p.forces.map Frc.value).take k=fewL p:=by
    rw[HFL.out,List.take_of_length_le (by rw[List.length_map];show fN p 5<=k;rw[HN5.out];omega)]
   have hn:mB+k=(fewL p).length:=by
    rw[HFL.out,List.length_append,HMB.out,List.length_map]
    show _=_+fN p 5
    rw[HN5.out]
   rw[hfull,hn]at HO
   have hnn:(fewL p).length<=5242880:=by omega
   obtain⟨AL,cL,rfl,_⟩:=zam HO.out
   have HRL:=z2g (Rd.own HO.out)
   have HE2:=z2g HE.out
   obtain⟨L,hL⟩: ∃L,fewL p=L:=⟨_,rfl⟩
   rw[hL]at HRL HE2 hnn ⊢
   obtain⟨n,hnL⟩: ∃n,L.length=n:=⟨_,rfl⟩
   have HNL:=z2g hnL
   rw[hnL]at HRL HE2 hnn ⊢
   have d4:=(HB.out.cell (p:=⟨B,4,none⟩) hBl).trans c4
   have HE3:Hid (R=(L.all (fun t=>decide (t.length<=300))&&(decide (n<=900)&&(decide (fN p 4<=210)&&decide (k<=210))))):=by show _=_;rw[HE2.out];show _=(_&&(_&&(_&&decide (_<=210))));rw[<-HN5.out];rfl
   clear hn hfull hL hnL HO HE HE2 HFL HMB HN5 H5 hbB
   go_wp2_with fail
   go_loopw [5] (fun i wq=> ∃j:Nat,j<=n/\i= .int .i64 (j:Nat)/\Hid (L.all (fun t=>decide (t.length<=300))=(L.drop j).all (fun t=>decide (t.length<=300)))/\wq=wr) (fun i _=>n-(intOf i).toNat)
   case atStart=>exact⟨0,by omega,rfl,by show _=_;rw[List.drop_zero],rfl⟩
   case round=>
    obtain⟨j,hj,rfl,HK,rfl⟩:=hrel
    by_cases hlt2:j<n
    ·have hjl:j<L.length:=by rw[HNL.out];exact hlt2
     obtain⟨t,hx⟩: ∃t,L[j]=t:=⟨_,rfl⟩
     have hr9:Rd wr (.slice AL L.length cL) L.length 1 (L.map sv):=by rw[HNL.out];exact HRL.out
     obtain⟨b,o,rfl,hb,x0⟩:=Rd.atS hr9 j t (by rw[<-hx];exact z2r hjl)
     have HD:Hid (L.drop j=t::L.drop (j+1)):=by show _=_;rw[<-hx];exact List.drop_eq_getElem_cons hjl
     simp only[sv]at x0
     have hts:(⟨t.toArray⟩:ByteArray).size=t.length:=by show t.toArray.size=_;simp
     clear hx hr9
     generalize(⟨t.toArray⟩:ByteArray)=ts at*
     by_cases h3:t.length<=300
     ·have HT:Hid (L.all (fun t=>decide (t.length<=300))=(L.drop (j+1)).all (fun t=>decide (t.length<=300))):=by show _=_;rw[HK.out,HD.out,List.all_cons,decide_eq_true h3,Bool.true_and]
      have e3:decide ((300:Int)<(ts.size:Int))=false:=by rw[hts];simp;omega
      clear HK HD h3 hts
      go_wp2_with fail
      go_roundw
      case rel=>exact⟨j+1,by omega,by go_num,HT.out,by first|rfl|trivial⟩
      case measure=>simp[intOf];omega
     ·have HR:Hid (R=false):=by show _=_;rw[HE3.out,HK.out,HD.out,List.all_cons,decide_eq_false h3];rfl
      have e3:decide ((300:Int)<(ts.size:Int))=true:=by rw[hts];simp;omega
      clear HK HD h3 hts
      go_wp2_with fail
      go_ret
      exact Ret.of (by rw[HR.out];rfl) HBw.out
    ·have HE4:Hid (R=(decide (n<=900)&&(decide (fN p 4<=210)&&decide (k<=210)))):=by
      show _=_
      rw[HE3.out,HK.out,List.drop_eq_nil_of_le (by rw[HNL.out];omega)];rfl
     clear HK HE3
     generalize fN p 4=n4 at*
     by_cases q1:n<=900
     ·by_cases q2:n4<=210
      ·go_wp2_with fail
       go_ret
       exact Ret.of (by rw[HE4.out];first|(simp[q1,q2];done)|(simp[q1,q2];omega)) HBw.out
      ·go_wp2_with fail
       go_ret
       exact Ret.of (by rw[HE4.out];first|(simp[q1,q2];done)|(simp[q1,q2];omega)) HBw.out
     ·go_wp2_with fail
      go_ret
      exact Ret.of (by rw[HE4.out];first|(simp[q1];done)|(simp[q1];omega)) HBw.out
end Go.Proofs.YtbhhgbgfaemfdaaGreatDoor
namespace Go.Proofs.YtbhhgbgfaemfdaaGreatDoor
def atR (en:Nat) (l:List Lx) (i:Nat):Nat:=atP en (l.drop i)
def tsR (t:Bs):List Bs:=if t=[]then []else [t]
def isR (l:List Lx) (i k:Nat) (t:Bs):Bool:=za8 k (tsR t) (l.drop i)
def zav (l:List Lx) (i:Nat):Bs:=match l.drop i with
 |[]=>[]
 |x::_=>x.text
theorem zcq (en k:Nat) (ts:List Bs) (l:List Lx) (i:Nat):zbw en k ts (l.drop i)=if za8 k ts (l.drop i)then .ok (⟨k,atR en l i,zav l i⟩,l.drop (i+1))else .error ⟨atR en l i,2⟩:=by
 have h1:l.drop (i+1)=(l.drop i).drop 1:=by rw[List.drop_drop]
 unfold atR zav
 rw[h1]
 generalize l.drop i=q
 cases q with
 |nil=>rfl
 |cons x r=>
  show(if isP k ts x then _ else _)=(if isP k ts x then _ else _)
  by_cases h:isP k ts x=true
  ·rw[if_pos h,if_pos h]
   obtain⟨hk,_⟩:=zek h
   subst hk
   rfl
  ·rw[if_neg h,if_neg h];rfl
def za2 (l:List Lx) (b:Nat):List Bs:=((l.drop b).takeWhile (isP 1 [])).map Lx.text
def zbn (l:List Lx) (b:Nat):Except Nat (List Bs):=
 if(za2 l b).length=0\/isR l (b+(za2 l b).length) 4 zbr=false then .error (b+(za2 l b).length)else .ok (za2 l b)
theorem zkr {α:Type} (p:α->Bool) (q:List α):q.dropWhile p=q.drop (q.takeWhile p).length:=by
 induction q with
 |nil=>rfl
 |cons x r ih=>
  by_cases h:p x=true
  ·rw[List.dropWhile_cons_of_pos h,List.takeWhile_cons_of_pos h,z2j,List.drop_succ_cons,ih]
  ·rw[List.dropWhile_cons_of_neg h,List.takeWhile_cons_of_neg h];rfl
theorem zq7:tsR zbr=[zbr]:=by unfold tsR;rw[if_neg (by decide)]
theorem wordsQ (en:Nat) (q:List Lx):zbm en q=if((q.takeWhile (isP 1 [])).map Lx.text).length=0 then .error ⟨atP en q,2⟩
  else if za8 4 [zbr] (q.drop ((q.takeWhile (isP 1 [])).map Lx.text).length)=true then .ok ((q.takeWhile (isP 1 [])).map Lx.text,q.drop (((q.takeWhile (isP 1 [])).map Lx.text).length+1))
  else .error ⟨atP en (q.drop ((q.takeWhile (isP 1 [])).map Lx.text).length),2⟩:=by
 unfold zbm
 cases q with
 |nil=>rfl
 |cons x r=>
  have e:zbw en 1 [] (x::r)=if isP 1 [] x=true then Except.ok (x,r)else Except.error ⟨x.at_,2⟩:=rfl
  rw[e]
  by_cases hx:isP 1 [] x=true
  ·rw[if_pos hx]
   simp only
   rw[List.takeWhile_cons_of_pos hx]
   simp only[List.map_cons,z2j,List.length_map,List.drop_succ_cons,z4c,if_false]
   unfold zhu
   rw[zkr]
   have h9:=zcq en 4 [zbr] r (r.takeWhile (isP 1 [])).length
   rw[h9]
   cases hn:za8 4 [zbr] (r.drop (r.takeWhile (isP 1 [])).length)
   ·simp[atR]
   ·simp
  ·rw[if_neg hx]
   simp only
   rw[List.takeWhile_cons_of_neg hx]
   rfl
theorem zm6 (en:Nat) (l:List Lx) (b:Nat):zbm en (l.drop b)=match zbn l b with
  | .error i=> .error ⟨atR en l i,2⟩
  | .ok ws=> .ok (ws,l.drop (b+ws.length+1)):=by
 rw[wordsQ]
 unfold zbn isR
 rw[zq7]
 have hd: ∀i,(l.drop b).drop i=l.drop (b+i):=fun i=>by rw[List.drop_drop]
 show(if(za2 l b).length=0 then _ else if za8 4 [zbr] ((l.drop b).drop (za2 l b).length)=true then Except.ok (za2 l b,(l.drop b).drop ((za2 l b).length+1))else Except.error (⟨atP en ((l.drop b).drop (za2 l b).length),2⟩:Flt))=_
 rw[hd,hd]
 by_cases h0:(za2 l b).length=0
 ·rw[if_pos h0,if_pos (.inl h0)]
  simp only
  unfold atR
  rw[h0];rfl
 ·rw[if_neg h0]
  cases hn:za8 4 [zbr] (l.drop (b+(za2 l b).length))with
  |true=>
   rw[if_pos rfl,if_neg (by rintro(h|h);exact h0 h;cases h)]
   simp only[Nat.add_assoc]
  |false=>
   rw[if_neg (by decide),if_pos (.inr rfl)]
   rfl
def zqr (l:List Lx):Except Nat Bs:=if(!isR l 1 1 []&& !isR l 1 4 [42])=true then .error 1 else if isR l 2 4 [58]=false then .error 2 else .ok (zav l 1)
def addK (kind tag:Bs) (p:Pol) (ws:List Bs):Pol:=
 if kind=zb4 then {p with tags:=p.tags++ws}
 else if kind=zau then {p with schemes:=p.schemes++ws}
 else if kind=cssT then {p with css:=p.css++ws}
 else if kind=zb5 then {p with drops:=p.drops++ws}
 else {p with attrs:=p.attrs++ws.map (fun n=>⟨tag,n⟩)}
def zhw (kind:Bs) (l:List Lx):Except Nat (Bs × Nat):=if kind=zay then match zqr l with
  | .error i=> .error i
  | .ok t=> .ok (t,3)
 else .ok ([],1)
def nmR (kind:Bs) (l:List Lx) (p:Pol):Except Nat (Nat × Pol):=match zhw kind l with
 | .error i=> .error i
 | .ok (tag,b)=>match zbn l b with
  | .error i=> .error i
  | .ok ws=> .ok (b+ws.length+1,addK kind tag p ws)
def zeo:List Bs:=[zb4,zau,cssT,zb5,zay]
def zdp:List Bs:=[relT,zbg,zbo]
def zde:List Lx->Bs
 |[]=>[]
 |x::_=>if x.kind=1 then x.text else []
theorem zr3 {P:Bs->Prop} (h0:P zb4) (h1:P zau) (h2:P cssT) (h3:P zb5) (h4:P zay): ∀k∈zeo,P k:=by
 intro k hk
 simp only[zeo,z3g,List.not_mem_nil,or_false]at hk
 rcases hk with rfl|rfl|rfl|rfl|rfl<;>assumption
theorem zm9 {P:Bs->Prop} (h0:P relT) (h1:P zbg) (h2:P zbo): ∀k∈zdp,P k:=by
 intro k hk
 simp only[zdp,z3g,List.not_mem_nil,or_false]at hk
 rcases hk with rfl|rfl|rfl<;>assumption
theorem ztf {l:List Lx} {k:Bs} (h:zde l=k) (hk:k≠[]): ∃x r,l=x::r/\x.kind=1/\x.text=k:=by
 cases l with
 |nil=>exact absurd h.symm hk
 |cons x r=>
  unfold zde at h
  simp only at h
  by_cases h1:x.kind=1
  ·rw[if_pos h1]at h;exact⟨x,r,rfl,h1,h⟩
  ·rw[if_neg h1]at h;exact absurd h.symm hk
theorem zc3 {en:Nat} {l:List Lx} {k:Bs} (h:zde l=k) (hk:k∈zb6): ∃x,zbw en 1 zb6 l= .ok (x,l.drop 1)/\x.text=k/\x.at_=atR en l 0:=by
 have hk0:k≠[]:=by rintro rfl;exact absurd hk (by decide)
 obtain⟨x,r,rfl,h1,rfl⟩:=ztf h hk0
 refine⟨x, ?_,rfl,rfl⟩
 show(if isP 1 zb6 x=true then _ else _)=_
 rw[if_pos (by simp[isP,h1,hk])]
 rfl
theorem zii {en:Nat} {l:List Lx} {p:Pol} {told:List Bs} (h:zde l∉zb6):zbi en ⟨l,p,told⟩= .error ⟨atR en l 0,2⟩:=by
 unfold zbi
 have:zbw en 1 zb6 l= .error ⟨atR en l 0,2⟩:=by
  cases l with
  |nil=>rfl
  |cons x r=>
   show(if isP 1 zb6 x=true then _ else _)=_
   rw[if_neg]
   ·rfl
   ·intro hi
    obtain⟨h1,h2⟩:=zek hi
    refine h ?_
    unfold zde
    simp only
    rw[if_pos h1]
    exact h2 (by decide)
 rw[this]
theorem ze5 {en:Nat} {l:List Lx} {p:Pol} {told:List Bs} (f:Pol->List Bs->Pol):zie en ⟨l.drop 1,p,told⟩ f=match zbn l 1 with
  | .error i=> .error ⟨atR en l i,2⟩
  | .ok ws=> .ok ⟨l.drop (1+ws.length+1),f p ws,told⟩:=by
 unfold zie
 simp only
 rw[zm6]
 cases zbn l 1<;>rfl
theorem zdj {en:Nat} {l:List Lx} {p:Pol} {told:List Bs}: ∀k∈zeo,zde l=k->zbi en ⟨l,p,told⟩=match nmR k l p with
  | .error i=> .error ⟨atR en l i,2⟩
  | .ok (n,q)=> .ok ⟨l.drop n,q,told⟩:=by
 refine zr3 ?_ ?_ ?_ ?_ ?_
 ·intro h
  obtain⟨x,ht,hx,_⟩:=zc3 (en:=en) h (by decide)
  unfold zbi
  rw[ht]
  simp only
  rw[if_pos hx,ze5]
  show _=match (match zbn l 1 with| .error i=> .error i| .ok ws=> .ok (1+ws.length+1,addK zb4 [] p ws):Except Nat (Nat × Pol))with| .error i=>_| .ok (n,q)=>_
  cases zbn l 1<;>rfl
 ·intro h
  obtain⟨x,ht,hx,_⟩:=zc3 (en:=en) h (by decide)
  unfold zbi
  rw[ht]
  simp only
  rw[if_neg (by rw[hx];decide),if_pos hx,ze5]
  show _=match (match zbn l 1 with| .error i=> .error i| .ok ws=> .ok (1+ws.length+1,addK zau [] p ws):Except Nat (Nat × Pol))with| .error i=>_| .ok (n,q)=>_
  cases zbn l 1<;>rfl
 ·intro h
  obtain⟨x,ht,hx,_⟩:=zc3 (en:=en) h (by decide)
  unfold zbi
  rw[ht]
  simp only
  rw[if_neg (by rw[hx];decide),if_neg (by rw[hx];decide),if_pos hx,ze5]
  show _=match (match zbn l 1 with| .error i=> .error i| .ok ws=> .ok (1+ws.length+1,addK cssT [] p ws):Except Nat (Nat × Pol))with| .error i=>_| .ok (n,q)=>_
  cases zbn l 1<;>rfl
 ·intro h
  obtain⟨x,ht,hx,_⟩:=zc3 (en:=en) h (by decide)
  unfold zbi
  rw[ht]
  simp only
  rw[if_neg (by rw[hx];decide),if_neg (by rw[hx];decide),if_neg (by rw[hx];decide),if_pos hx,ze5]
  show _=match (match zbn l 1 with| .error i=> .error i| .ok ws=> .ok (1+ws.length+1,addK zb5 [] p ws):Except Nat (Nat × Pol))with| .error i=>_| .ok (n,q)=>_
  cases zbn l 1<;>rfl
 ·intro h
  obtain⟨x,ht,hx,_⟩:=zc3 (en:=en) h (by decide)
  unfold zbi
  rw[ht]
  simp only
  rw[if_neg (by rw[hx];decide),if_neg (by rw[hx];decide),if_neg (by rw[hx];decide),if_neg (by rw[hx];decide),if_pos hx]
  unfold zfy nmR zhw zqr
  rw[if_pos rfl]
  simp only
  have h1:isR l 1 1 []=za8 1 [] (l.drop 1):=rfl
  have h2:isR l 1 4 [42]=za8 4 [[42]] (l.drop 1):=rfl
  have h3:isR l 2 4 [58]=za8 4 [[58]] (l.drop 2):=rfl
  rw[h1,h2,h3]
  cases hc:(za8 4 [[42]] (l.drop 1)||za8 1 [] (l.drop 1))with
  |false=>
   obtain⟨e1,e2⟩:=z30.1 hc
   rw[e1,e2]
   rfl
  |true=>
   have e1:(!za8 1 [] (l.drop 1)&& !za8 4 [[42]] (l.drop 1))=false:=by
    revert hc
    cases za8 4 [[42]] (l.drop 1)<;>cases za8 1 [] (l.drop 1)<;>simp
   rw[e1]
   simp only[z38,if_false,if_true]
   cases hq:l.drop 1 with
   |nil=>rw[hq]at hc;cases hc
   |cons y r=>
    have hr:r=l.drop 2:=by
     have:l.drop 2=(l.drop 1).drop 1:=by rw[List.drop_drop]
     rw[this,hq];rfl
    have hy:zav l 1=y.text:=by unfold zav;rw[hq]
    subst hr
    simp only
    rw[zcq,hy]
    cases h4:za8 4 [[58]] (l.drop 2)with
    |false=>rfl
    |true=>
     simp only[Bool.true_eq_false,if_false,if_true]
     rw[zm6]
     cases zbn l 3<;>rfl
def zb1 (l:List Lx):Nat->List Nat->Option Nat
 |i,[]=>if isR l i 4 zbr then none else some i
 |i,k::ks=>if isR l i k []then zb1 l (i+1) ks else some i
def zby (l:List Lx) (ks:List Nat):Option Nat:=zb1 l 1 ks
def sgR (kind:Bs) (l:List Lx) (p:Pol) (told:List Bs):Except (Nat × Nat) (Nat × Pol × List Bs):=
 if kind=relT then
  if(!isR l 1 1 yesT&& !isR l 1 1 noT)=true then .error (2,1)
  else match zby l [1]with
   |some i=> .error (2,i)
   |none=>if relT∈told then .error (5,0)else .ok (3,{p with rel:=decide (zav l 1=yesT)},relT::told)
 else if kind=zbg then match zby l [1,1,3]with
  |some i=> .error (2,i)
  |none=>if(zbg++[32]++zav l 1++[32]++zav l 2)∈told then .error (5,0)else .ok (5,{p with forces:=p.forces++[⟨zav l 1,zav l 2,zav l 3⟩]},(zbg++[32]++zav l 1++[32]++zav l 2)::told)
 else if(!isR l 1 1 zca&&(!isR l 1 1 zds&& !isR l 1 1 valT))=true then .error (2,1)
 else match zby l [1,2]with
  |some i=> .error (2,i)
  |none=>if(zbo++[32]++zav l 1)∈told then .error (5,0)else if limB (setL (zav l 1) (numT (zav l 2)) p)then .ok (4,setL (zav l 1) (numT (zav l 2)) p,(zbo++[32]++zav l 1)::told)else .error (2,2)
theorem zml (en a:Nat) (what:Bs) (l:List Lx) (i:Nat) (told:List Bs):zdk en a what (l.drop i) told=if isR l i 4 zbr then(if what∈told then .error ⟨a,5⟩else .ok (l.drop (i+1),what::told))else .error ⟨atR en l i,2⟩:=by
 unfold zdk isR
 rw[zcq,zq7]
 cases za8 4 [zbr] (l.drop i)<;>rfl
theorem zzl {k:Nat} {t u:Bs} {q:List Lx}:za8 k [t,u] q=(za8 k [t] q||za8 k [u] q):=by
 cases q with
 |nil=>rfl
 |cons x r=>
  show isP k [t,u] x=(isP k [t] x||isP k [u] x)
  unfold isP
  cases decide (x.kind=k)<;>simp
theorem zs3 {k:Nat} {t u v:Bs} {q:List Lx}:za8 k [t,u,v] q=(za8 k [t] q||(za8 k [u] q||za8 k [v] q)):=by
 cases q with
 |nil=>rfl
 |cons x r=>
  show isP k [t,u,v] x=(isP k [t] x||(isP k [u] x||isP k [v] x))
  unfold isP
  cases decide (x.kind=k)<;>simp
theorem zgi {k:Nat} {ts:List Bs} {q:List Lx} (h:za8 k ts q=true):za8 k [] q=true:=by
 cases q with
 |nil=>cases h
 |cons x r=>
  obtain⟨h1,_⟩:=zek h
  show isP k [] x=true
  simp[isP,h1]
theorem zd9 {en:Nat} {l:List Lx} {p:Pol} {told:List Bs}: ∀k∈zdp,zde l=k->zbi en ⟨l,p,told⟩=match sgR k l p told with
  | .error (c,i)=> .error ⟨atR en l i,c⟩
  | .ok (n,q,t)=> .ok ⟨l.drop n,q,t⟩:=by
 refine zm9 ?_ ?_ ?_
 ·intro h
  obtain⟨x,ht,hx,ha⟩:=zc3 (en:=en) h (by decide)
  unfold zbi
  rw[ht]
  simp only
  rw[if_neg (by rw[hx];decide),if_neg (by rw[hx];decide),if_neg (by rw[hx];decide),if_neg (by rw[hx];decide),if_neg (by rw[hx];decide),if_pos hx]
  unfold relP sgR
  rw[if_pos rfl,ha]
  simp only
  rw[zcq,zzl]
  have h1:isR l 1 1 yesT=za8 1 [yesT] (l.drop 1):=rfl
  have h2:isR l 1 1 noT=za8 1 [noT] (l.drop 1):=rfl
  have h3:isR l 1 1 []=za8 1 [] (l.drop 1):=rfl
  rw[h1,h2]
  cases hc:(za8 1 [yesT] (l.drop 1)||za8 1 [noT] (l.drop 1))with
  |false=>
   obtain⟨e1,e2⟩:=z30.1 hc
   rw[e1,e2]
   rfl
  |true=>
   have e1:(!za8 1 [yesT] (l.drop 1)&& !za8 1 [noT] (l.drop 1))=false:=by
    revert hc
    cases za8 1 [yesT] (l.drop 1)<;>cases za8 1 [noT] (l.drop 1)<;>simp
   rw[e1]
   have e2:isR l 1 1 []=true:=by
    rw[h3]
    rcases z47.1 hc with h|h<;>exact zgi h
   have e3:zby l [1]=if isR l 2 4 zbr then none else some 2:=by
    unfold zby zb1
    rw[if_pos e2];rfl
   simp only[if_true,z38,if_false]
   rw[e3,zml]
   cases isR l 2 4 zbr with
   |false=>rfl
   |true=>
    simp only[if_true]
    by_cases hin:relT∈told
    ·simp only[if_pos hin]
    ·simp only[if_neg hin]
 ·intro h
  obtain⟨x,ht,hx,ha⟩:=zc3 (en:=en) h (by decide)
  unfold zbi
  rw[ht]
  simp only
  rw[if_neg (by rw[hx];decide),if_neg (by rw[hx];decide),if_neg (by rw[hx];decide),if_neg (by rw[hx];decide),if_neg (by rw[hx];decide),if_neg (by rw[hx];decide),if_pos hx]
  unfold zeh sgR zby zb1 zb1 zb1 zb1
  rw[if_neg (by decide),if_pos rfl,ha]
  simp only
  rw[zcq]
  have h1:isR l 1 1 []=za8 1 [] (l.drop 1):=rfl
  have h2:isR l 2 1 []=za8 1 [] (l.drop 2):=rfl
  have h3:isR l 3 3 []=za8 3 [] (l.drop 3):=rfl
  simp only[show 1+1=2 from rfl,show 2+1=3 from rfl,show 3+1=4 from rfl]
  rw[h1,h2,h3]
  cases za8 1 [] (l.drop 1)with
  |false=>rfl
  |true=>
   simp only[if_true]
   rw[zcq]
   simp only[show 2+1=3 from rfl]
   cases za8 1 [] (l.drop 2)with
   |false=>rfl
   |true=>
    simp only[if_true]
    rw[zcq]
    simp only[show 3+1=4 from rfl]
    cases za8 3 [] (l.drop 3)with
    |false=>rfl
    |true=>
     simp only[if_true]
     rw[zml]
     cases isR l 4 4 zbr with
     |false=>rfl
     |true=>
      simp only[if_true]
      by_cases hin:(zbg++[32]++zav l 1++[32]++zav l 2)∈told
      ·simp only[if_pos hin]
      ·simp only[if_neg hin]
 ·intro h
  obtain⟨x,ht,hx,ha⟩:=zc3 (en:=en) h (by decide)
  unfold zbi
  rw[ht]
  simp only
  rw[if_neg (by rw[hx];decide),if_neg (by rw[hx];decide),if_neg (by rw[hx];decide),if_neg (by rw[hx];decide),if_neg (by rw[hx];decide),if_neg (by rw[hx];decide),if_neg (by rw[hx];decide)]
  unfold zef sgR
  rw[if_neg (by decide),if_neg (by decide),ha]
  simp only
  rw[zcq,zs3]
  have h1:isR l 1 1 zca=za8 1 [zca] (l.drop 1):=rfl
  have h2:isR l 1 1 zds=za8 1 [zds] (l.drop 1):=rfl
  have h3:isR l 1 1 valT=za8 1 [valT] (l.drop 1):=rfl
  have h4:isR l 1 1 []=za8 1 [] (l.drop 1):=rfl
  have h5:isR l 2 2 []=za8 2 [] (l.drop 2):=rfl
  rw[h1,h2,h3]
  cases hc:(za8 1 [zca] (l.drop 1)||(za8 1 [zds] (l.drop 1)||za8 1 [valT] (l.drop 1)))with
  |false=>
   obtain⟨e1,e2⟩:=z30.1 hc
   obtain⟨e2,e3⟩:=z30.1 e2
   rw[e1,e2,e3]
   rfl
  |true=>
   have e1:(!za8 1 [zca] (l.drop 1)&&(!za8 1 [zds] (l.drop 1)&& !za8 1 [valT] (l.drop 1)))=false:=by
    revert hc
    cases za8 1 [zca] (l.drop 1)<;>cases za8 1 [zds] (l.drop 1)<;>cases za8 1 [valT] (l.drop 1)<;>simp
   rw[e1]
   have e2:isR l 1 1 []=true:=by
    rw[h4]
    rcases z47.1 hc with h|h
    ·exact zgi h
    ·rcases z47.1 h with h|h<;>exact zgi h
   have e3:zby l [1,2]=if za8 2 [] (l.drop 2)then(if isR l 3 4 zbr then none else some 3)else some 2:=by
    unfold zby zb1 zb1 zb1
    rw[if_pos e2,<-h5]
   simp only[if_true,z38,if_false]
   rw[e3,zcq]
   simp only[show 1+1=2 from rfl,show 2+1=3 from rfl]
   cases za8 2 [] (l.drop 2)with
   |false=>rfl
   |true=>
    simp only[if_true]
    rw[zml]
    simp only[show 3+1=4 from rfl]
    cases isR l 3 4 zbr with
    |false=>rfl
    |true=>
     simp only[if_true]
     by_cases hin:(zbo++[32]++zav l 1)∈told
     ·simp only[if_pos hin]
     ·simp only[if_neg hin]
      by_cases hl:limB (setL (zav l 1) (numT (zav l 2)) p)=true
      ·simp only[if_pos hl]
      ·simp only[if_neg hl]
end Go.Proofs.YtbhhgbgfaemfdaaGreatDoor
namespace Go.Proofs.YtbhhgbgfaemfdaaGreatDoor
theorem zq1 (k tag:Bs) (p:Pol) (ws:List Bs):(addK k tag p ws).forces=p.forces:=by
 unfold addK
 split
 ·rfl
 split
 ·rfl
 split
 ·rfl
 split<;>rfl
theorem zs2 {k:Bs} {l:List Lx} {p q:Pol} {n:Nat} (h:nmR k l p= .ok (n,q)):q.forces=p.forces:=by
 unfold nmR at h
 split at h
 ·cases h
 ·split at h
  ·cases h
  ·cases h;exact zq1 _ _ _ _
theorem zly {l:List Lx} {i N:Nat} (h: ∀x∈l,x.text.length<=N):(zav l i).length<=N:=by
 unfold zav
 split
 ·exact z48 _
 ·next x r hx=>exact h x (List.mem_of_mem_drop (by rw[hx];exact List.mem_cons_self))
theorem zy7 {k:Bs} {l:List Lx} {p:Pol} {told:List Bs} {c i:Nat} (h:sgR k l p told= .error (c,i)):c=2\/c=5:=by
 unfold sgR at h
 split at h
 ·split at h
  ·cases h;exact .inl rfl
  ·split at h
   ·cases h;exact .inl rfl
   ·split at h<;>cases h
    exact .inr rfl
 ·split at h
  ·split at h
   ·cases h;exact .inl rfl
   ·split at h<;>cases h
    exact .inr rfl
  ·split at h
   ·cases h;exact .inl rfl
   ·split at h
    ·cases h;exact .inl rfl
    ·split at h
     ·cases h;exact .inr rfl
     ·split at h<;>cases h
      exact .inl rfl
theorem zpl (k:Bs) (n:Int) (p:Pol):(setL k n p).forces=p.forces:=by
 unfold setL
 split
 ·rfl
 split<;>rfl
theorem z1h {k:Bs} {l:List Lx} {p q:Pol} {told t:List Bs} {n N:Nat} (h:sgR k l p told= .ok (n,q,t)) (hl: ∀x∈l,x.text.length<=N) (hp: ∀f∈p.forces,f.value.length<=N): ∀f∈q.forces,f.value.length<=N:=by
 unfold sgR at h
 split at h
 ·split at h
  ·cases h
  ·split at h
   ·cases h
   ·split at h<;>cases h
    exact hp
 ·split at h
  ·split at h
   ·cases h
   ·split at h<;>cases h
    intro f hf
    rcases List.mem_append.1 hf with h1|h1
    ·exact hp f h1
    ·simp at h1
     subst h1
     exact zly hl
  ·split at h
   ·cases h
   ·split at h
    ·cases h
    ·split at h
     ·cases h
     ·split at h<;>cases h
      rw[zpl];exact hp
theorem zjx {k:Bs} (h:k∈zb6):k∈zeo\/k∈zdp:=by
 simp only[zb6,zeo,zdp,z3g,List.not_mem_nil,or_false]at h ⊢
 rcases h with h|h|h|h|h|h|h|h<;>simp[h]
theorem zvg {en:Nat} {s:Ps} {f:Flt} (h:zbi en s= .error f):f.code≠0:=by
 obtain⟨l,p,told⟩:=s
 by_cases hk:zde l∈zb6
 ·rcases zjx hk with h5|h3
  ·rw[zdj (zde l) h5 rfl]at h
   split at h
   ·cases h;exact z4c 1
   ·cases h
  ·rw[zd9 (zde l) h3 rfl]at h
   split at h
   ·next c i hs=>cases h;rcases zy7 hs with rfl|rfl<;>simp
   ·cases h
 ·rw[zii hk]at h;cases h;exact z4c 1
theorem zy5 {en N:Nat} {s t:Ps} (h:zbi en s= .ok t) (hl: ∀x∈s.rest,x.text.length<=N) (hp: ∀f∈s.pol.forces,f.value.length<=N): ∀f∈t.pol.forces,f.value.length<=N:=by
 obtain⟨l,p,told⟩:=s
 by_cases hk:zde l∈zb6
 ·rcases zjx hk with h5|h3
  ·rw[zdj (zde l) h5 rfl]at h
   split at h
   ·cases h
   ·next n q hn=>cases h;simp only;rw[zs2 hn];exact hp
  ·rw[zd9 (zde l) h3 rfl]at h
   split at h
   ·cases h
   ·next n q t hs=>cases h;exact z1h hs hl hp
 ·rw[zii hk]at h;cases h
theorem znw {en:Nat}: ∀(f:Nat) {s:Ps} {e:Flt},runF en f s= .error e->e.code≠0
 |0,s,e,h=>by cases h
 |f+1,s,e,h=>by
  unfold runF at h
  split at h
  ·cases h
  ·split at h
   ·next hs=>cases h;exact zvg hs
   ·exact znw f h
theorem zrj {en N:Nat}: ∀(f:Nat) {s t:Ps},runF en f s= .ok t->PsSm s->(∀x∈s.rest,x.text.length<=N)->(∀f∈s.pol.forces,f.value.length<=N)->PsSm t/\ ∀f∈t.pol.forces,f.value.length<=N
 |0,s,t,h,hs,_,hp=>by cases h;exact⟨hs,hp⟩
 |f+1,s,t,h,hs,hl,hp=>by
  unfold runF at h
  split at h
  ·cases h;exact⟨hs,hp⟩
  ·split at h
   ·cases h
   ·next u hu=>exact zrj f h (hs.stmt hu) (fun x hx=>hl x ((zrc hu).mem x hx)) (zy5 hu hl hp)
theorem zln {s:Bs} {f:Flt} (h:zbf s= .error f):f.code≠0:=by
 unfold zbf at h
 split at h
 ·cases h;exact z4c 2
 ·split at h
  ·cases h;exact z4c 1
  ·split at h
   ·next ht=>cases h;exact znw _ ht
   ·split at h
    ·cases h
    ·cases h;exact z4c 2
theorem zei {t:Bs} (h:zaz t=true):t.length<=64:=by
 rw[zlw]at h
 simp only[z26,decide_eq_true_eq]at h
 exact h.1.1.2
theorem zrp {s:Bs} {p:Pol} (h:zbf s= .ok p):zdz p 10000:=by
 have hr:=zgh h
 have hv: ∀f∈p.forces,f.value.length<=10000:=by
  unfold zbf at h
  split at h
  ·cases h
  ·next h8=>
   split at h
   ·cases h
   ·next l hl=>
    split at h
    ·cases h
    ·next t ht=>
     split at h
     ·cases h
      obtain⟨h1,_⟩:=zl6 hl (by omega)
      have h9:=(zrj (N:=10000) _ ht h1 (fun x hx=>(h1.txt x hx).1) (fun f hf=>(by cases hf))).2
      exact fun f hf=>h9 f (zd1 swoF hf)
     ·cases h
 unfold zbu fitB at hr
 simp only[z26,decide_eq_true_eq,List.all_eq_true]at hr
 obtain⟨⟨⟨⟨⟨⟨⟨⟨a0,a1⟩,a2⟩,a3⟩,a4⟩,a5⟩,_⟩,b0,b1,b2,b3,b4,b5⟩,_⟩:=hr
 refine⟨fun j hj=> ?_,fun t ht=>z2k (zei (a0 t ht)) (by omega),fun t ht=>z2k (zei (a1 t ht)) (by omega),fun t ht=>z2k (zei (a2 t ht)) (by omega),fun t ht=>z2k (zei (a3 t ht)) (by omega),fun a ha=> ?_,fun a ha=> ?_⟩
 ·rcases(by omega:j=0\/j=1\/j=2\/j=3\/j=4\/j=5)with rfl|rfl|rfl|rfl|rfl|rfl<;>(simp only[fN];omega)
 ·have h1:=a4 a ha
  unfold alwB at h1
  simp only[z26,Bool.or_eq_true,decide_eq_true_eq]at h1
  refine⟨?_,z2k (zei h1.2) (by omega)⟩
  rcases h1.1 with h2|h2
  ·rw[h2];decide
  ·exact z2k (zei h2) (by omega)
 ·have h1:=a5 a ha
  unfold frcB at h1
  simp only[z26]at h1
  exact⟨z2k (zei h1.1.2) (by omega),z2k (zei h1.2) (by omega),hv a ha⟩
end Go.Proofs.YtbhhgbgfaemfdaaGreatDoor
namespace Go.Proofs.YtbhhgbgfaemfdaaGreatDoor
open Go.RowKit
attribute [local go_sem] Oper.semAt_some
theorem zdz.mono {p:Pol} {n m:Nat} (h:zdz p n) (hm:n<=m):zdz p m:=⟨fun j hj=>z2k (h.rows j hj) hm,fun t ht=>z2k (h.tags t ht) hm,fun t ht=>z2k (h.schemes t ht) hm,fun t ht=>z2k (h.css t ht) hm,fun t ht=>z2k (h.drops t ht) hm,fun a ha=>⟨z2k (h.attrs a ha).1 hm,z2k (h.attrs a ha).2 hm⟩,fun a ha=>⟨z2k (h.forces a ha).1 hm,z2k (h.forces a ha).2.1 hm,z2k (h.forces a ha).2.2 hm⟩⟩
theorem zdz.sm {p:Pol} (h:zdz p 1048576):zdi p:=⟨z2k (h.rows 0 (by omega)) (by omega),z2k (h.rows 1 (by omega)) (by omega),z2k (h.rows 2 (by omega)) (by omega),z2k (h.rows 3 (by omega)) (by omega),z2k (h.rows 4 (by omega)) (by omega),z2k (h.rows 5 (by omega)) (by omega)⟩
theorem zdz.tx {p:Pol} (h:zdz p 1048576):zym p:=by
 refine⟨fun k hk t ht=> ?_,fun a ha=>⟨z2k (h.attrs a ha).1 (by omega),z2k (h.attrs a ha).2 (by omega)⟩,fun a ha=>⟨z2k (h.forces a ha).1 (by omega),z2k (h.forces a ha).2.1 (by omega),z2k (h.forces a ha).2.2 (by omega)⟩⟩
 rcases(by omega:k=0\/k=1\/k=2\/k=3)with rfl|rfl|rfl|rfl
 ·exact z2k (h.tags t ht) (by omega)
 ·exact z2k (h.schemes t ht) (by omega)
 ·exact z2k (h.css t ht) (by omega)
 ·exact z2k (h.drops t ht) (by omega)
end Go.Proofs.YtbhhgbgfaemfdaaGreatDoor
namespace Go.Proofs.YtbhhgbgfaemfdaaGreatDoor
open Go.RowKit
theorem polZ_v (W:World) (bad:Nat->Prop):PolV W bad zd0 polZ:=by
 have hr: ∀size,Rx W bad (.slice none 0 0) 0 size []:=fun size=>⟨none,0,rfl,⟨fun _=>rfl,Nat.le_refl _⟩,Rd.nil _ _,fun h=>absurd h (Nat.lt_irrefl 0)⟩
 exact⟨_,_,_,_,_,_,rfl,hr 1,hr 1,hr 1,hr 1,hr 2,hr 3⟩
theorem z1n (n:Nat):zdz polZ n:=⟨fun j hj=>by rcases(by omega:j=0\/j=1\/j=2\/j=3\/j=4\/j=5)with rfl|rfl|rfl|rfl|rfl|rfl<;>exact z48 _,fun _ h=>(by cases h),fun _ h=>(by cases h),fun _ h=>(by cases h),fun _ h=>(by cases h),fun _ h=>(by cases h),fun _ h=>(by cases h)⟩
structure ParseG (s:Bs) (a c:Nat) (P:Pol):Prop where
 run: ∀W,Calls Tryz.prog 33 #[.string ⟨s.toArray⟩] W fun e w'=>Below W.heap.size W w'/\ ∃v,e= .returned (.tuple #[v,.int .i64 a,.int .i64 c])/\PolV w' (fun b=>b<W.heap.size) v P
 bk:zdz P 10000
 says:(c=0/\a=0/\zbf s= .ok P)\/(c≠0/\P=polZ/\a<=s.length/\zbf s= .error ⟨a,c⟩)
theorem zwi (s:Bs): ∃a c P,ParseG s a c P:=by
 cases h:zbf s with
 |ok p=>
  refine⟨0,0,p,fun W=> ?_,zrp h,.inl ⟨rfl,rfl,h⟩⟩
  refine(zjp s W).mono fun e w' h9=> ?_
  unfold zce at h9
  rw[h]at h9
  exact h9
 |error f=>
  obtain⟨a,c⟩:=f
  refine⟨a,c,polZ,fun W=> ?_,z1n _,.inr ⟨zln h,rfl,zzi h,h⟩⟩
  refine(zjp s W).mono fun e w' h9=> ?_
  unfold zce at h9
  rw[h]at h9
  exact⟨h9.1,_,h9.2,polZ_v _ _⟩
end Go.Proofs.YtbhhgbgfaemfdaaGreatDoor

