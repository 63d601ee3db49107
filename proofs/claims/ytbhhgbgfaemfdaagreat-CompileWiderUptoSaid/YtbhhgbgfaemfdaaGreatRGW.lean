/- How a policy that came in is opened; Few. -/
import Derived.BigRegion
import Derived.ChangeSame
import Derived.Deep.Fields
import Derived.Deep.Slices
import Derived.OpenShut
import Derived.ProofKit
import Derived.SizedLaws
import Derived.Test.YtbhhgbgfaemfdaaGreatLA
import Derived.Test.YtbhhgbgfaemfdaaGreatPA
import Derived.Test.YtbhhgbgfaemfdaaGreatR4
import Derived.Test.YtbhhgbgfaemfdaaGreatRiC
import Derived.Test.YtbhhgbgfaemfdaaGreatRiD
import Derived.Test.YtbhhgbgfaemfdaaGreatRows
import Derived.Test.YtbhhgbgfaemfdaaGreatS3
import Derived.Test.YtbhhgbgfaemfdaaGreatRG
set_option maxRecDepth 100000
set_option maxHeartbeats 4000000
namespace Go.Proofs.YtbhhgbgfaemfdaaGreat
theorem choose_list {α:Type} [Inhabited α] {n:Nat} {p:Nat->α->Prop} (h: ∀i,i<n-> ∃x,p i x): ∃l:List α,l.length=n/\ ∀i (hi:i<l.length),p i l[i]:=by
 classical
 refine⟨(List.range n).map fun i=>if h: ∃x,p i x then Classical.choose h else default,by simp,fun i hi=> ?_⟩
 simp only[List.length_map,List.length_range]at hi
 simp only[List.getElem_map,List.getElem_range]
 rw[dif_pos (h i hi)]
 exact Classical.choose_spec (h i hi)
theorem own_emp {W:World} {e:TypeId} {size base B:Nat} (hB:B=W.heap.size) (hb:base<=W.heap.size):(W.alloc (.cells #[] e)).ownsRow base e size (.slice (some ⟨B,0,none⟩) 0 0) 0 []:=by
 subst hB
 exact own_base (own_lit (c:= #[]) (n:=0) (by simp) (by simp)) hb
open Go.ChangeShapes Go.WideShapes Go.Deep
namespace bulks
theorem part_le {H:Type} {d:DataW H} {l:List (DataW H)} (h:d∈l):Rows.uptoBulk d<=Rows.uptoBulkAll l:=by
 induction l with
 |nil=>cases h
 |cons x r ih=>
  simp only[Rows.uptoBulkAll]
  cases List.mem_cons.1 h with
  |inl e=>subst e;omega
  |inr e=>have:=ih e;omega
theorem slice_le {H:Type} (elems spare:List (DataW H)):elems.length<=Rows.uptoBulk (.slice elems spare):=by
 have h1:=length_le elems
 simp only[Rows.uptoBulk]
 omega
theorem elem_le {H:Type} {elems spare:List (DataW H)} {d:DataW H} (h:d∈elems):Rows.uptoBulk d<=Rows.uptoBulk (.slice elems spare):=by
 have h1:=part_le h
 simp only[Rows.uptoBulk]
 omega
theorem field_le {H:Type} {parts:List (DataW H)} {d:DataW H} (h:d∈parts):Rows.uptoBulk d<=Rows.uptoBulk (.agg parts):=by
 have h1:=part_le h
 simp only[Rows.uptoBulk]
 omega
theorem string_le {H:Type} (bytes:List UInt8):bytes.length<=Rows.uptoBulk (DataW.lit (H:=H) (.string bytes)):=by
 simp[Rows.uptoBulk]
theorem bound {H:Type} {l:List (DataW H)} (hk:Rows.uptoSmall H l=true):Rows.uptoBulkAll l<=1048576:=of_decide_eq_true hk
end bulks
theorem flat_len3 {α:Type} (cells:α->List Value) (n:Nat) (hn: ∀x,(cells x).length=n) (l:List α):(l.flatMap cells).length=l.length*n:=by
 induction l with
 |nil=>simp
 |cons x r ih=>rw[List.flatMap_cons,List.length_append,hn,ih,List.length_cons,Nat.succ_mul];omega
theorem flat_one (l:List Bs):l.flatMap (fun t=>[sv t])=l.map sv:=by
 induction l with
 |nil=>rfl
 |cons x r ih=>rw[List.flatMap_cons,List.map_cons,ih];rfl
section
variable {H:Type} {enc:TypeId × Value->H} {w:World} {base:Nat} {spare:Nat->Bool} {held:Bool}
theorem rows_open {α:Type} [Inhabited α] (cells:α->List Value) (mk:(Nat->Bs)->α) (n:Nat) (hmk: ∀f,cells (mk f)=(List.range n).map fun j=>sv (f j)) (hlen: ∀x,(cells x).length=n) (hp:0<n) {t e:TypeId} (ht:Tryz.prog.underlying t=some (.slice e)) (hC:Tryz.prog.cellsOf e=n)
  (hel: ∀{fuel:Nat} {cs:List Value} {y:DataW H × List MemPlace},DataW.trod enc Tryz.prog w base spare held fuel e cs=some y-> ∃f:Nat->Bs,cs=(List.range n).map (fun j=>sv (f j))/\ ∀j,j<n->(f j).length<=Rows.uptoBulk y.1)
  {fuel:Nat} {v:Value} {x:DataW H × List MemPlace} (h:DataW.trod enc Tryz.prog w base spare held fuel t [v]=some x):
  ∃l:List α,Rx w (fun _=>False) v l.length n (l.flatMap cells)/\l.length<=Rows.uptoBulk x.1/\ ∀y∈l,∃f:Nat->Bs,y=mk f/\ ∀j,j<n->(f j).length<=Rows.uptoBulk x.1:=by
 rcases open_slice ht h with⟨hcs,rfl⟩|⟨a,len,cap,m,n',D,Pl,hcs,hb,hl,hm,hmm,hx,hi⟩
 ·simp at hcs
  subst hcs
  exact⟨[],⟨none,0,rfl,⟨fun _=>rfl,Nat.le_refl _⟩,Rd.nil _ _,fun h=>absurd h (Nat.lt_irrefl 0)⟩,Nat.zero_le _,fun _ h=>(by cases h)⟩
 ·simp at hcs
  subst hcs
  have hml:len<=m:=by rw[hmm];split<;>omega
  have hlm:len<=9223372036854775807:=by unfold maxLen at hm;omega
  by_cases h0:len=0
  ·subst h0
   exact⟨[],⟨some a,cap,rfl,⟨fun h=>(by cases h),Nat.zero_le _⟩,Rd.empty,fun h=>absurd h (Nat.lt_irrefl 0)⟩,Nat.zero_le _,fun _ h=>(by cases h)⟩
  ·have key: ∀i,i<len-> ∃f:Nat->Bs,(∀j,j<n->w.cell? (a.add (i*n+j))=some (sv (f j))/\(f j).length<=Rows.uptoBulk x.1):=by
    intro i him
    obtain⟨cs',hc,ht'⟩:=hi i (by omega)
    rw[hC]at hc
    obtain⟨f,hf,hfl⟩:=hel ht'
    obtain⟨_,hcl,hat⟩:=World.cells?_some hc
    refine⟨f,fun j hj=>⟨?_,Nat.le_trans (hfl j hj) ?_⟩⟩
    ·rw[<-Go.Deep.add_add,hat j hj,hf]
     simp[hj]
    ·rw[hx]
     exact bulks.elem_le (List.mem_map.2 ⟨i,List.mem_range.2 him,rfl⟩)
   obtain⟨b,off,spot⟩:=a
   obtain⟨f0,hf0⟩:=key 0 (by omega)
   have hspot:spot=none:=by simpa[Addr.add]using World.cell?_spot (hf0 0 hp).1
   subst hspot
   have hadd: ∀k,(⟨b,off,none⟩:Addr).add k=⟨b,off+k,none⟩:=fun k=>by unfold Addr.add;split<;>simp_all
   obtain⟨l,hll,hl2⟩: ∃l:List α,l.length=len/\ ∀i (hi:i<l.length),∃f:Nat->Bs,l[i]=mk f/\ ∀j,j<n->w.cell? ⟨b,off+(i*n+j),none⟩=some (sv (f j))/\(f j).length<=Rows.uptoBulk x.1:=by
    refine choose_list (p:=fun i y=> ∃f:Nat->Bs,y=mk f/\ ∀j,j<n->w.cell? ⟨b,off+(i*n+j),none⟩=some (sv (f j))/\(f j).length<=Rows.uptoBulk x.1) fun i hi=> ?_
    obtain⟨f,hf⟩:=key i hi
    exact⟨mk f,f,rfl,fun j hj=>by rw[<-hadd];exact hf j hj⟩
   subst hll
   refine⟨l,⟨some ⟨b,off,none⟩,cap,rfl,⟨fun h=>(by cases h),hl⟩,⟨flat_len3 cells n hlen l,hlm,some ⟨b,off,none⟩,cap,rfl,fun h9=>⟨b,off,rfl, ?_,fun j u hu=> ?_⟩⟩,fun _ _ _ _ _ hh=>hh⟩, ?_,fun y hy=> ?_⟩
   ·obtain⟨f,_,hc⟩:=hl2 0 h9
    exact World.block_lt_of_cell? w _ (hc 0 hp).1
   ·have hj:j<l.length*n:=by rw[<-flat_len3 cells n hlen l];exact(List.getElem?_eq_some_iff.1 hu).1
    have hn0:0<n:=hp
    have e9:j=j/n*n+j%n:=by rw[Nat.mul_comm];exact(Nat.div_add_mod j n).symm
    have hk:j/n<l.length:=Nat.div_lt_of_lt_mul (by rw[Nat.mul_comm];exact hj)
    have hr:j%n<n:=Nat.mod_lt _ hn0
    obtain⟨f,hf,hc⟩:=hl2 (j/n) hk
    rw[e9,flat_at3 cells n hlen l _ _ hk hr,hf,hmk]at hu
    simp only[List.getElem?_map,List.getElem?_range hr,Option.map_some,Option.some.injEq]at hu
    rw[<-hu]
    have h8:=(hc _ hr).1
    rwa[<-e9]at h8
   ·rw[hx]
    refine Nat.le_trans ?_ (bulks.slice_le _ _)
    simp
   ·obtain⟨i,hi',rfl⟩:=List.getElem_of_mem hy
    obtain⟨f,hf,hc⟩:=hl2 i hi'
    exact⟨f,hf,fun j hj=>(hc j hj).2⟩
theorem str_el {fuel:Nat} {cs:List Value} {y:DataW H × List MemPlace} (h:DataW.trod enc Tryz.prog w base spare held fuel 9 cs=some y): ∃f:Nat->Bs,cs=(List.range 1).map (fun j=>sv (f j))/\ ∀j,j<1->(f j).length<=Rows.uptoBulk y.1:=by
 obtain⟨s,rfl,rfl,_⟩:=DataW.trod_string Tryz.underlying9 h
 exact⟨fun _=>s.data.toList,rfl,fun _ _=>bulks.string_le _⟩
theorem struct_el {e:TypeId} {fs:Array Field} {n:Nat} (hs:Tryz.prog.underlying e=some (.struct fs)) (hone:oneCellFields Tryz.prog fs=true) (hC:Tryz.prog.cellsOf e=n) (hn:fs.size=n) (hstr: ∀(j:Nat) f,fs[j]? =some f->Tryz.prog.underlying f.type=some .string)
  {fuel:Nat} {cs:List Value} {y:DataW H × List MemPlace} (h:DataW.trod enc Tryz.prog w base spare held fuel e cs=some y): ∃f:Nat->Bs,cs=(List.range n).map (fun j=>sv (f j))/\ ∀j,j<n->(f j).length<=Rows.uptoBulk y.1:=by
 obtain⟨ys,n2,hn2,hy,hlen',hyl,hf⟩:=DataW.trod_struct hs h
 rw[hC]at hlen'
 obtain⟨f,hff⟩:=choose_lt (α:=Bs) (n:=n) (p:=fun j t=>cs[j]? =some (sv t)/\t.length<=Rows.uptoBulk y.1) (fun j hj=>by
  have hfj:fs[j]? =some (fs[j]'(by omega)):=Array.getElem?_eq_getElem (by omega)
  obtain⟨ho,hk⟩:=hone_of hone j _ hfj
  have h1:=hf j _ hfj
  rw[ho,hk]at h1
  have hone':(cs.drop j).take 1=[cs[j]'(by omega)]:=by
   rw[List.drop_eq_getElem_cons (by omega)]
   rfl
  have hys:ys[j]? =some (ys[j]'(by omega)):=List.getElem?_eq_getElem (by omega)
  rw[hone',hys]at h1
  obtain⟨s,e1,e2,_⟩:=DataW.trod_string (hstr j _ hfj) h1
  simp at e1
  refine⟨s.data.toList,by rw[List.getElem?_eq_getElem (by omega),e1];rfl, ?_⟩
  rw[hy]
  refine Nat.le_trans ?_ (bulks.field_le (d:=(ys[j]'(by omega)).1) (List.mem_map.2 ⟨_,List.getElem_mem _,rfl⟩))
  rw[e2]
  exact bulks.string_le _)
 refine⟨f, ?_,fun j hj=>(hff j hj).2⟩
 refine List.ext_getElem? fun j=> ?_
 by_cases hj:j<n
 ·rw[(hff j hj).1];simp[hj]
 ·rw[List.getElem?_eq_none (by omega),List.getElem?_eq_none (by simp;omega)]
instance:Inhabited Alw:=⟨⟨[],[]⟩⟩
instance:Inhabited Frc:=⟨⟨[],[],[]⟩⟩
theorem strs_open {fuel:Nat} {v:Value} {x:DataW H × List MemPlace} (h:DataW.trod enc Tryz.prog w base spare held fuel 36 [v]=some x):
  ∃l:List Bs,Rx w (fun _=>False) v l.length 1 (l.map sv)/\l.length<=Rows.uptoBulk x.1/\ ∀t∈l,t.length<=Rows.uptoBulk x.1:=by
 obtain⟨l,h1,h2,h3⟩:=rows_open (fun t:Bs=>[sv t]) (fun f=>f 0) 1 (fun _=>rfl) (fun _=>rfl) (by omega) Tryz.underlying36 (by kernel_rfl) (fun h=>str_el h) h
 refine⟨l, ?_,h2,fun t ht=> ?_⟩
 ·rw[<-flat_one l];exact h1
 ·obtain⟨f,rfl,hf⟩:=h3 t ht
  exact hf 0 (by omega)
theorem alw_fields: ∃f0 f1:Field,Tryz.prog.underlying 65=some (.struct #[f0,f1])/\f0.type=9/\f1.type=9/\oneCellFields Tryz.prog #[f0,f1]=true:=
 ⟨_,_,Tryz.underlying65,rfl,rfl,by kernel_rfl⟩
theorem frc_fields: ∃f0 f1 f2:Field,Tryz.prog.underlying 67=some (.struct #[f0,f1,f2])/\f0.type=9/\f1.type=9/\f2.type=9/\oneCellFields Tryz.prog #[f0,f1,f2]=true:=
 ⟨_,_,_,Tryz.underlying67,rfl,rfl,rfl,by kernel_rfl⟩
theorem alws_open {fuel:Nat} {v:Value} {x:DataW H × List MemPlace} (h:DataW.trod enc Tryz.prog w base spare held fuel 37 [v]=some x):
  ∃l:List Alw,Rx w (fun _=>False) v l.length 2 (l.flatMap Alw.cells)/\l.length<=Rows.uptoBulk x.1/\ ∀a∈l,a.tag.length<=Rows.uptoBulk x.1/\a.name.length<=Rows.uptoBulk x.1:=by
 obtain⟨f0,f1,hs,t0,t1,hone⟩:=alw_fields
 obtain⟨l,h1,h2,h3⟩:=rows_open Alw.cells (fun f=>⟨f 0,f 1⟩) 2 (fun _=>rfl) (fun _=>rfl) (by omega) Tryz.underlying37 (by kernel_rfl) (fun h=>struct_el hs hone (by kernel_rfl) rfl (fun j f hj=>by
  match j,hj with
  |0,hj=>obtain rfl:f0=f:=Option.some.inj hj;rw[t0];exact Tryz.underlying9
  |1,hj=>obtain rfl:f1=f:=Option.some.inj hj;rw[t1];exact Tryz.underlying9
  |j+2,hj=>simp at hj) h) h
 exact⟨l,h1,h2,fun a ha=>by obtain⟨f,rfl,hf⟩:=h3 a ha;exact⟨hf 0 (by omega),hf 1 (by omega)⟩⟩
theorem frcs_open {fuel:Nat} {v:Value} {x:DataW H × List MemPlace} (h:DataW.trod enc Tryz.prog w base spare held fuel 38 [v]=some x):
  ∃l:List Frc,Rx w (fun _=>False) v l.length 3 (l.flatMap Frc.cells)/\l.length<=Rows.uptoBulk x.1/\ ∀a∈l,a.tag.length<=Rows.uptoBulk x.1/\a.name.length<=Rows.uptoBulk x.1/\a.value.length<=Rows.uptoBulk x.1:=by
 obtain⟨f0,f1,f2,hs,t0,t1,t2,hone⟩:=frc_fields
 obtain⟨l,h1,h2,h3⟩:=rows_open Frc.cells (fun f=>⟨f 0,f 1,f 2⟩) 3 (fun _=>rfl) (fun _=>rfl) (by omega) Tryz.underlying38 (by kernel_rfl) (fun h=>struct_el hs hone (by kernel_rfl) rfl (fun j f hj=>by
  match j,hj with
  |0,hj=>obtain rfl:f0=f:=Option.some.inj hj;rw[t0];exact Tryz.underlying9
  |1,hj=>obtain rfl:f1=f:=Option.some.inj hj;rw[t1];exact Tryz.underlying9
  |2,hj=>obtain rfl:f2=f:=Option.some.inj hj;rw[t2];exact Tryz.underlying9
  |j+3,hj=>simp at hj) h) h
 exact⟨l,h1,h2,fun a ha=>by obtain⟨f,rfl,hf⟩:=h3 a ha;exact⟨hf 0 (by omega),hf 1 (by omega),hf 2 (by omega)⟩⟩
theorem pol_fields: ∃f0 f1 f2 f3 f4 f5 f6 f7 f8 f9:Field,Tryz.prog.underlying 40=some (.struct #[f0,f1,f2,f3,f4,f5,f6,f7,f8,f9])/\f0.type=36/\f1.type=36/\f2.type=36/\f3.type=36/\f4.type=37/\f5.type=38/\f6.type=4/\f7.type=3/\f8.type=3/\f9.type=3/\oneCellFields Tryz.prog #[f0,f1,f2,f3,f4,f5,f6,f7,f8,f9]=true:=
 ⟨_,_,_,_,_,_,_,_,_,_,Tryz.underlying40,rfl,rfl,rfl,rfl,rfl,rfl,rfl,rfl,rfl,rfl,by kernel_rfl⟩
theorem ten_of {α:Type} {l:List α} (h:l.length=10): ∃a0 a1 a2 a3 a4 a5 a6 a7 a8 a9,l=[a0,a1,a2,a3,a4,a5,a6,a7,a8,a9]:=by
 rcases l with _|⟨a0,_|⟨a1,_|⟨a2,_|⟨a3,_|⟨a4,_|⟨a5,_|⟨a6,_|⟨a7,_|⟨a8,_|⟨a9,_|⟨a10,r⟩⟩⟩⟩⟩⟩⟩⟩⟩⟩⟩
 ·simp at h
 ·simp at h
 ·simp at h
 ·simp at h
 ·simp at h
 ·simp at h
 ·simp at h
 ·simp at h
 ·simp at h
 ·simp at h
 ·exact⟨a0,a1,a2,a3,a4,a5,a6,a7,a8,a9,rfl⟩
 ·simp at h
theorem pol_open {fuel:Nat} {cs:List Value} {x:DataW H × List MemPlace} (h:DataW.trod enc Tryz.prog w base spare held fuel 40 cs=some x):
  ∃p:Pol,PolV w (fun _=>False) (.agg cs.toArray) p/\PolBk p (Rows.uptoBulk x.1):=by
 obtain⟨f0,f1,f2,f3,f4,f5,f6,f7,f8,f9,hs,t0,t1,t2,t3,t4,t5,t6,t7,t8,t9,hone⟩:=pol_fields
 obtain⟨ys,n2,hn2,hy,hlen',hyl,hf⟩:=DataW.trod_struct hs h
 have hcl:cs.length=10:=by rw[hlen'];kernel_rfl
 have hyl10:ys.length=10:=hyl
 obtain⟨v0,v1,v2,v3,v4,v5,v6,v7,v8,v9,rfl⟩: ∃v0 v1 v2 v3 v4 v5 v6 v7 v8 v9,cs=[v0,v1,v2,v3,v4,v5,v6,v7,v8,v9]:=ten_of hcl
 obtain⟨y0,y1,y2,y3,y4,y5,y6,y7,y8,y9,rfl⟩: ∃y0 y1 y2 y3 y4 y5 y6 y7 y8 y9,ys=[y0,y1,y2,y3,y4,y5,y6,y7,y8,y9]:=ten_of hyl10
 have hg: ∀(j:Nat) f,#[f0,f1,f2,f3,f4,f5,f6,f7,f8,f9][j]? =some f->DataW.trod enc Tryz.prog w base spare held n2 f.type (([v0,v1,v2,v3,v4,v5,v6,v7,v8,v9].drop j).take 1)=[y0,y1,y2,y3,y4,y5,y6,y7,y8,y9][j]? :=fun j f hj=>by
  obtain⟨ho,hk⟩:=hone_of hone j f hj
  have:=hf j f hj
  rwa[ho,hk]at this
 have g0:=hg 0 f0 rfl
 have g1:=hg 1 f1 rfl
 have g2:=hg 2 f2 rfl
 have g3:=hg 3 f3 rfl
 have g4:=hg 4 f4 rfl
 have g5:=hg 5 f5 rfl
 have g6:=hg 6 f6 rfl
 have g7:=hg 7 f7 rfl
 have g8:=hg 8 f8 rfl
 have g9:=hg 9 f9 rfl
 rw[t0]at g0
 rw[t1]at g1
 rw[t2]at g2
 rw[t3]at g3
 rw[t4]at g4
 rw[t5]at g5
 rw[t6]at g6
 rw[t7]at g7
 rw[t8]at g8
 rw[t9]at g9
 obtain⟨l0,r0,b0,c0⟩:=strs_open g0
 obtain⟨l1,r1,b1,c1⟩:=strs_open g1
 obtain⟨l2,r2,b2,c2⟩:=strs_open g2
 obtain⟨l3,r3,b3,c3⟩:=strs_open g3
 obtain⟨l4,r4,b4,c4⟩:=alws_open g4
 obtain⟨l5,r5,b5,c5⟩:=frcs_open g5
 obtain⟨rel,e6,_⟩:=DataW.trod_bool Tryz.underlying4 g6
 obtain⟨n7,e7,_⟩:=DataW.trod_int Tryz.underlying3 g7
 obtain⟨n8,e8,_⟩:=DataW.trod_int Tryz.underlying3 g8
 obtain⟨n9,e9,_⟩:=DataW.trod_int Tryz.underlying3 g9
 simp at e6 e7 e8 e9
 subst e6 e7 e8 e9
 have hb: ∀y∈[y0,y1,y2,y3,y4,y5,y6,y7,y8,y9],Rows.uptoBulk y.1<=Rows.uptoBulk x.1:=fun y hm=>by
  rw[hy]
  exact bulks.field_le (List.mem_map.2 ⟨y,hm,rfl⟩)
 have k0:=hb y0 (by simp)
 have k1:=hb y1 (by simp)
 have k2:=hb y2 (by simp)
 have k3:=hb y3 (by simp)
 have k4:=hb y4 (by simp)
 have k5:=hb y5 (by simp)
 refine⟨⟨l0,l1,l2,l3,l4,l5,rel,n7,n8,n9⟩,⟨v0,v1,v2,v3,v4,v5,rfl,r0,r1,r2,r3,r4,r5⟩,fun j hj=> ?_,fun t ht=>Nat.le_trans (c0 t ht) k0,fun t ht=>Nat.le_trans (c1 t ht) k1,fun t ht=>Nat.le_trans (c2 t ht) k2,fun t ht=>Nat.le_trans (c3 t ht) k3,fun a ha=>⟨Nat.le_trans (c4 a ha).1 k4,Nat.le_trans (c4 a ha).2 k4⟩,fun a ha=>⟨Nat.le_trans (c5 a ha).1 k5,Nat.le_trans (c5 a ha).2.1 k5,Nat.le_trans (c5 a ha).2.2 k5⟩⟩
 rcases(by omega:j=0\/j=1\/j=2\/j=3\/j=4\/j=5)with rfl|rfl|rfl|rfl|rfl|rfl
 ·exact Nat.le_trans b0 k0
 ·exact Nat.le_trans b1 k1
 ·exact Nat.le_trans b2 k2
 ·exact Nat.le_trans b3 k3
 ·exact Nat.le_trans b4 k4
 ·exact Nat.le_trans b5 k5
end
end Go.Proofs.YtbhhgbgfaemfdaaGreat
namespace Go.Proofs.YtbhhgbgfaemfdaaGreat
open Go.RowKit
attribute [local go_sem] Oper.semAt_some
def fewL (p:Pol):List Bs:=p.tags++p.schemes++p.css++p.drops++p.forces.map Frc.value
def fewP (p:Pol):Bool:=(fewL p).all (fun t=>decide (t.length<=300))&&(decide ((fewL p).length<=900)&&(decide (p.attrs.length<=210)&&decide (p.forces.length<=210)))
theorem rfew_any (v:Value) (p:Pol) (w:World) (h:PolV w (fun _=>False) v p) (hk:PolBk p 1048576):Calls Tryz.prog 18 #[v] w (Ret (.bool (fewP p)) w):=by
 have hmx:Tryz.prog.follows .mixedOrders=true:=by kernel_rfl
 have b0:fN p 0<=1048576:=hk.rows 0 (by omega)
 have b1:fN p 1<=1048576:=hk.rows 1 (by omega)
 have b2:fN p 2<=1048576:=hk.rows 2 (by omega)
 have b3:fN p 3<=1048576:=hk.rows 3 (by omega)
 have b5:fN p 5<=1048576:=hk.rows 5 (by omega)
 have HE:Hid (fewP p=((fewL p).all (fun t=>decide (t.length<=300))&&(decide ((fewL p).length<=900)&&(decide (p.attrs.length<=210)&&decide (p.forces.length<=210))))):=rfl
 obtain⟨v0,v1,v2,v3,v4,v5,rfl,⟨A0,k0,rfl,n0,h0,_⟩,⟨A1,k1,rfl,n1,h1,_⟩,⟨A2,k2,rfl,n2,h2,_⟩,⟨A3,k3,rfl,n3,h3,_⟩,⟨A4,k4,rfl,_,h4,_⟩,⟨A5,k5,rfl,_,h5,_⟩⟩:=h
 have H0:=Lib.hid h0
 have H1:=Lib.hid h1
 have H2:=Lib.hid h2
 have H3:=Lib.hid h3
 have H5:=Lib.hid h5
 obtain⟨R,hR⟩: ∃R,fewP p=R:=⟨_,rfl⟩
 rw[hR]at HE ⊢
 clear hR hk h0 h1 h2 h3 h4 h5
 go_enter Tryz.func18,Tryz.ntmps18
 go_upto_region 1 with fail
 refine name_world fun W0 hW0=> ?_
 obtain⟨B,hB⟩: ∃B,w.heap.size=B:=⟨_,rfl⟩
 rw[hB]
 have hb0:Below w.heap.size w W0:=by rw[hW0];exact bel
 have c0:W0.cell? ⟨B,0,none⟩=some (.slice A0 (fN p 0) k0):=by rw[hW0,<-hB];simp[go_sem]
 have c1:W0.cell? ⟨B,1,none⟩=some (.slice A1 (fN p 1) k1):=by rw[hW0,<-hB];simp[go_sem]
 have c2:W0.cell? ⟨B,2,none⟩=some (.slice A2 (fN p 2) k2):=by rw[hW0,<-hB];simp[go_sem]
 have c3:W0.cell? ⟨B,3,none⟩=some (.slice A3 (fN p 3) k3):=by rw[hW0,<-hB];simp[go_sem]
 have c4:W0.cell? ⟨B,4,none⟩=some (.slice A4 (fN p 4) k4):=by rw[hW0,<-hB];simp[go_sem]
 have c5:W0.cell? ⟨B,5,none⟩=some (.slice A5 (fN p 5) k5):=by rw[hW0,<-hB];simp[go_sem]
 have hBl:B<W0.heap.size:=by rw[hW0,<-hB];simp
 have r0:=H0.out.belowX hb0
 have r1:=H1.out.belowX hb0
 have r2:=H2.out.belowX hb0
 have r3:=H3.out.belowX hb0
 have hS0:Below W0.heap.size W0 W0.drew:=bel
 have HB0:=Lib.hid hb0
 clear hW0 hb0
 refine wp_region_row 13 [(1,true),(2,true),(4,true),(5,true),(7,true),(8,true),(10,true),(11,true),(0,false),(3,false),(6,false),(9,false),(12,false)] (fun V=>Below W0.heap.size W0 V) hmx (by kernel_rfl) (by kernel_rfl) (by kernel_rfl) (by decide) rfl (fun c a d v w h=>by obtain⟨x,y⟩:=(h:_/\_);cases d<;>exact⟨x,y⟩) (by kernel_rfl) (by exact hS0) ?_
 refine wpRow_readD (v:= .pointer (some ⟨B,0,none⟩)) 7 rfl rfl rfl (fun W hW=>by simp[execOp,go_sem]) ?_
 simp only[Act.put,List.setIfInBounds_toArray,List.set_cons_succ,List.set_cons_zero]
 refine wpRow_readD (v:= .slice A0 (fN p 0) k0) 8 rfl rfl rfl (fun W hW=>by have d:=(hW.cell (p:=⟨B,0,none⟩) hBl).trans c0;simp[execOp,go_sem,d]) ?_
 simp only[Act.put,List.setIfInBounds_toArray,List.set_cons_succ,List.set_cons_zero]
 refine wpRow_readD (v:= .pointer (some ⟨B,1,none⟩)) 10 rfl rfl rfl (fun W hW=>by simp[execOp,go_sem]) ?_
 simp only[Act.put,List.setIfInBounds_toArray,List.set_cons_succ,List.set_cons_zero]
 refine wpRow_readD (v:= .slice A1 (fN p 1) k1) 11 rfl rfl rfl (fun W hW=>by have d:=(hW.cell (p:=⟨B,1,none⟩) hBl).trans c1;simp[execOp,go_sem,d]) ?_
 simp only[Act.put,List.setIfInBounds_toArray,List.set_cons_succ,List.set_cons_zero]
 refine wpRow_readD (v:= .pointer (some ⟨B,2,none⟩)) 13 rfl rfl rfl (fun W hW=>by simp[execOp,go_sem]) ?_
 simp only[Act.put,List.setIfInBounds_toArray,List.set_cons_succ,List.set_cons_zero]
 refine wpRow_readD (v:= .slice A2 (fN p 2) k2) 14 rfl rfl rfl (fun W hW=>by have d:=(hW.cell (p:=⟨B,2,none⟩) hBl).trans c2;simp[execOp,go_sem,d]) ?_
 simp only[Act.put,List.setIfInBounds_toArray,List.set_cons_succ,List.set_cons_zero]
 refine wpRow_readD (v:= .pointer (some ⟨B,3,none⟩)) 16 rfl rfl rfl (fun W hW=>by simp[execOp,go_sem]) ?_
 simp only[Act.put,List.setIfInBounds_toArray,List.set_cons_succ,List.set_cons_zero]
 refine wpRow_readD (v:= .slice A3 (fN p 3) k3) 17 rfl rfl rfl (fun W hW=>by have d:=(hW.cell (p:=⟨B,3,none⟩) hBl).trans c3;simp[execOp,go_sem,d]) ?_
 simp only[Act.put,List.setIfInBounds_toArray,List.set_cons_succ,List.set_cons_zero]
 refine wpRow_op rfl rfl fun Kc hKc=> ?_
 unfold Oper.wp
 simp[execOp,go_sem]
 apply hKc
 have hS1:Below W0.heap.size W0 (W0.drew.alloc (.cells #[] 9)):=bel
 have ho1:(W0.drew.alloc (.cells #[] 9)).ownsRow W0.heap.size 9 1 (.slice (some ⟨W0.heap.size,0,none⟩) 0 0) 0 []:=own_emp (by simp[go_sem]) (by simp[go_sem])
 refine⟨hS1, ?_⟩
 refine wpRow_op rfl rfl fun Kc hKc=> ?_
 refine op_src (n:=0) (xs:=([]:List Value)) rfl _ _ 36 rfl sltS W0 rfl ho1 hS1 (fN p 0) (fC p 0) (news_rd r0 n0.1 hS1) r0.1 (sv_oneC _) (by unfold maxLen;omega) (by omega) ?_
 intro va0 Va0 ho2 _ hS2
 have hS2:=hS2.out
 apply hKc
 refine⟨hS2, ?_⟩
 simp only[Act.put,List.setIfInBounds_toArray]
 refine wpRow_op rfl rfl fun Kc hKc=> ?_
 refine op_src (n:=(0+fN p 0)) (xs:=([]++fC p 0)) rfl _ _ 36 rfl sltS W0 rfl ho2 hS2 (fN p 1) (fC p 1) (news_rd r1 n1.1 hS2) r1.1 (sv_oneC _) (by unfold maxLen;omega) (by omega) ?_
 intro va1 Va1 ho3 _ hS3
 have hS3:=hS3.out
 apply hKc
 refine⟨hS3, ?_⟩
 simp only[Act.put]
 refine wpRow_op rfl rfl fun Kc hKc=> ?_
 refine op_src (n:=(0+fN p 0+fN p 1)) (xs:=([]++fC p 0++fC p 1)) rfl _ _ 36 rfl sltS W0 rfl ho3 hS3 (fN p 2) (fC p 2) (news_rd r2 n2.1 hS3) r2.1 (sv_oneC _) (by unfold maxLen;omega) (by omega) ?_
 intro va2 Va2 ho4 _ hS4
 have hS4:=hS4.out
 apply hKc
 refine⟨hS4, ?_⟩
 simp only[Act.put]
 refine wpRow_op rfl rfl fun Kc hKc=> ?_
 refine op_src (n:=(0+fN p 0+fN p 1+fN p 2)) (xs:=([]++fC p 0++fC p 1++fC p 2)) rfl _ _ 36 rfl sltS W0 rfl ho4 hS4 (fN p 3) (fC p 3) (news_rd r3 n3.1 hS4) r3.1 (sv_oneC _) (by unfold maxLen;omega) (by omega) ?_
 intro va3 Va3 ho5 _ hS5
 have hS5:=hS5.out
 apply hKc
 refine⟨hS5, ?_⟩
 dsimp only[wpRow,List.drop]
 have HS5:=Lib.hid hS5
 have HLB:Hid (p.tags++p.schemes++p.css++p.drops=p.tags++p.schemes++p.css++p.drops):=rfl
 obtain⟨LB,hLB⟩: ∃LB,p.tags++p.schemes++p.css++p.drops=LB:=⟨_,rfl⟩
 have hmB:0+fN p 0+fN p 1+fN p 2+fN p 3=LB.length:=by rw[<-hLB];simp[fN];omega
 have hxB:([]:List Value)++fC p 0++fC p 1++fC p 2++fC p 3=LB.map sv:=by rw[<-hLB];simp[fC]
 have hbB:LB.length<=4194304:=by omega
 rw[hmB,hxB]at ho5
 have HO5:=Lib.hid ho5
 have HFL:Hid (fewL p=LB++p.forces.map Frc.value):=by show _=_;rw[<-hLB];rfl
 clear hmB hxB hLB HLB ho1 ho2 ho3 ho4 ho5 hS0 hS1 hS2 hS3 hS4 hS5 r0 r1 r2 r3 c0 c1 c2 c3 n0 n1 n2 n3 H0 H1 H2 H3 b0 b1 b2 b3
 obtain⟨n5,hn5⟩: ∃n,fN p 5=n:=⟨_,rfl⟩
 have HN5:=Lib.hid hn5
 obtain⟨mB,hmB⟩: ∃m,LB.length=m:=⟨_,rfl⟩
 have HMB:=Lib.hid hmB
 rw[hn5]at c5 b5
 rw[hmB]at hbB HO5
 clear hn5 hmB
 go_wp2_with fail
 go_loopw [3,4] (fun v i wr=> ∃k:Nat,k<=n5/\i= .int .i64 (k:Nat)/\Hid (wr.ownsRow W0.heap.size 9 1 v (mB+k) ((LB++(p.forces.map Frc.value).take k).map sv))/\Hid (Below W0.heap.size W0 wr)) (fun _ i _=>n5-(intOf i).toNat)
 case atStart=>exact⟨0,by omega,rfl,by show World.ownsRow _ _ _ _ _ _ _;rw[List.take_zero,List.append_nil];exact HO5.out,HS5.out⟩
 case round=>
  clear HO5 HS5
  obtain⟨k,hk,rfl,HO,HB⟩:=hrel
  have d5:=(HB.out.cell (p:=⟨B,5,none⟩) hBl).trans c5
  have hszw:=HB.out.size
  have HBw:=Lib.hid (HB0.out.trans (HB.out.mono HB0.out.size))
  have hBr:B<wr.heap.size:=Nat.lt_of_lt_of_le hBl hszw
  by_cases hlt:k<n5
  ·have hkl:k<p.forces.length:=by show k<fN p 5;rw[HN5.out];exact hlt
   obtain⟨b,off,hAd,hb,hc⟩: ∃b off,A5=some ⟨b,off,none⟩/\b<w.heap.size/\ ∀i u,(fC p 5)[i]? =some u->w.cell? ⟨b,off+i,none⟩=some u:=by
    obtain⟨_,_,A',c',e,h4⟩:=H5.out
    cases e
    exact h4 (by rw[HN5.out];omega)
   subst hAd
   obtain⟨x,hx⟩: ∃x,p.forces[k]=x:=⟨_,rfl⟩
   have x2:wr.cell? ⟨b,off+k*3+2,none⟩=some (.string ⟨x.value.toArray⟩):=by
    have h9:=hc (k*3+2) (sv x.value) (by show(p.forces.flatMap Frc.cells)[k*3+2]? =_;rw[flat_at2 Frc.cells 3 frc_len p.forces k 2 hkl (by omega),hx];rfl)
    exact(HBw.out.cell hb).trans ((congrArg (fun i=>w.cell? ⟨b,i,none⟩) (by omega)).trans h9)
   have hbr:b<wr.heap.size:=Nat.lt_of_lt_of_le hb HBw.out.size
   have htk:(LB++(p.forces.map Frc.value).take (k+1)).map sv=(LB++(p.forces.map Frc.value).take k).map sv++[.string ⟨x.value.toArray⟩]:=by
    rw[List.take_succ_eq_append_getElem (by simpa using hkl),<-List.append_assoc,List.map_append]
    simp[hx,sv]
   have HTk:=Lib.hid htk
   clear hc hx htk
   generalize(⟨x.value.toArray⟩:ByteArray)=ts at*
   obtain⟨AL,cL,rfl,_⟩:=own_cap HO.out
   go_wp2_with(at_builtin;refine append_abs rfl _ _ 36 rfl sltS W0.heap.size rfl (HO.out.alloc _) (by simp[go_sem]<;>omega) ⟨_,0,none⟩ 1 1 [.string ts] rfl rfl (new_cells (c:= #[.string ts]) (by simp[go_sem])) (by simp[Value.oneCell']) (by unfold maxLen;omega) (by omega) ?_;intro v6 W6 ho6 hg6;have HO6:=Lib.hid ho6;have HB6:=own_step (size:=1) hg6 (HO.out.alloc _) (HB.out.alloc hszw _);clear ho6 hg6)
   go_roundw
   case rel=>exact⟨k+1,by omega,by go_num,by show World.ownsRow _ _ _ _ _ _ _;rw[HTk.out];exact HO6.out,HB6.out⟩
   case measure=>simp[intOf];omega
  ·have hkn:k=n5:=by omega
   subst hkn
   have hfull:LB++(p.forces.map Frc.value).take k=fewL p:=by
    rw[HFL.out,List.take_of_length_le (by rw[List.length_map];show fN p 5<=k;rw[HN5.out];omega)]
   have hn:mB+k=(fewL p).length:=by
    rw[HFL.out,List.length_append,HMB.out,List.length_map]
    show _=_+fN p 5
    rw[HN5.out]
   rw[hfull,hn]at HO
   have hnn:(fewL p).length<=5242880:=by omega
   obtain⟨AL,cL,rfl,_⟩:=own_cap HO.out
   have HRL:=Lib.hid (Rd.own HO.out)
   have HE2:=Lib.hid HE.out
   obtain⟨L,hL⟩: ∃L,fewL p=L:=⟨_,rfl⟩
   rw[hL]at HRL HE2 hnn ⊢
   obtain⟨n,hnL⟩: ∃n,L.length=n:=⟨_,rfl⟩
   have HNL:=Lib.hid hnL
   rw[hnL]at HRL HE2 hnn ⊢
   have d4:=(HB.out.cell (p:=⟨B,4,none⟩) hBl).trans c4
   have HE3:Hid (R=(L.all (fun t=>decide (t.length<=300))&&(decide (n<=900)&&(decide (fN p 4<=210)&&decide (k<=210))))):=by show _=_;rw[HE2.out];show _=(_&&(_&&(_&&decide (_<=210))));rw[<-HN5.out];rfl
   clear hn hfull hL hnL HO HE HE2 HFL HMB HN5 H5 hbB
   go_wp2_with fail
   go_loopw [5] (fun i wq=> ∃j:Nat,j<=n/\i= .int .i64 (j:Nat)/\Hid (L.all (fun t=>decide (t.length<=300))=(L.drop j).all (fun t=>decide (t.length<=300)))/\wq=wr) (fun i _=>n-(intOf i).toNat)
   case atStart=>exact⟨0,by omega,rfl,by show _=_;rw[List.drop_zero],rfl⟩
   case round=>
    obtain⟨j,hj,rfl,HK,rfl⟩:=hrel
    by_cases hlt2:j<n
    ·have hjl:j<L.length:=by rw[HNL.out];exact hlt2
     obtain⟨t,hx⟩: ∃t,L[j]=t:=⟨_,rfl⟩
     have hr9:Rd wr (.slice AL L.length cL) L.length 1 (L.map sv):=by rw[HNL.out];exact HRL.out
     obtain⟨b,o,rfl,hb,x0⟩:=Rd.atS hr9 j t (by rw[<-hx];exact List.getElem?_eq_getElem hjl)
     have HD:Hid (L.drop j=t::L.drop (j+1)):=by show _=_;rw[<-hx];exact List.drop_eq_getElem_cons hjl
     simp only[sv]at x0
     have hts:(⟨t.toArray⟩:ByteArray).size=t.length:=by show t.toArray.size=_;simp
     clear hx hr9
     generalize(⟨t.toArray⟩:ByteArray)=ts at*
     by_cases h3:t.length<=300
     ·have HT:Hid (L.all (fun t=>decide (t.length<=300))=(L.drop (j+1)).all (fun t=>decide (t.length<=300))):=by show _=_;rw[HK.out,HD.out,List.all_cons,decide_eq_true h3,Bool.true_and]
      have e3:decide ((300:Int)<(ts.size:Int))=false:=by rw[hts];simp;omega
      clear HK HD h3 hts
      go_wp2_with fail
      go_roundw
      case rel=>exact⟨j+1,by omega,by go_num,HT.out,by first|rfl|trivial⟩
      case measure=>simp[intOf];omega
     ·have HR:Hid (R=false):=by show _=_;rw[HE3.out,HK.out,HD.out,List.all_cons,decide_eq_false h3];rfl
      have e3:decide ((300:Int)<(ts.size:Int))=true:=by rw[hts];simp;omega
      clear HK HD h3 hts
      go_wp2_with fail
      go_ret
      exact Ret.of (by rw[HR.out];rfl) HBw.out
    ·have HE4:Hid (R=(decide (n<=900)&&(decide (fN p 4<=210)&&decide (k<=210)))):=by
      show _=_
      rw[HE3.out,HK.out,List.drop_eq_nil_of_le (by rw[HNL.out];omega)];rfl
     clear HK HE3
     generalize fN p 4=n4 at*
     by_cases q1:n<=900
     ·by_cases q2:n4<=210
      ·go_wp2_with fail
       go_ret
       exact Ret.of (by rw[HE4.out];first|(simp[q1,q2];done)|(simp[q1,q2];omega)) HBw.out
      ·go_wp2_with fail
       go_ret
       exact Ret.of (by rw[HE4.out];first|(simp[q1,q2];done)|(simp[q1,q2];omega)) HBw.out
     ·go_wp2_with fail
      go_ret
      exact Ret.of (by rw[HE4.out];first|(simp[q1];done)|(simp[q1];omega)) HBw.out
end Go.Proofs.YtbhhgbgfaemfdaaGreat
namespace Go.Proofs.YtbhhgbgfaemfdaaGreat
end Go.Proofs.YtbhhgbgfaemfdaaGreat
namespace Go.Proofs.YtbhhgbgfaemfdaaGreat
end Go.Proofs.YtbhhgbgfaemfdaaGreat
namespace Go.Proofs.YtbhhgbgfaemfdaaGreat
open Go.RowKit
attribute [local go_sem] Oper.semAt_some
end Go.Proofs.YtbhhgbgfaemfdaaGreat
namespace Go.Proofs.YtbhhgbgfaemfdaaGreat
open Go.RowKit
end Go.Proofs.YtbhhgbgfaemfdaaGreat

