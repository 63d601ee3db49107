/- The walks of the reference's 'all' and Within of chapter 09. (written by gen_rwith.py) -/
import Derived.BigRegion
import Derived.Test.YtbhhgbgfaemfdaaGreatDoorPrwG
namespace Go.Proofs.YtbhhgbgfaemfdaaGreatDoor
open List renaming setIfInBounds_toArray→z2d,set_cons_succ→z2f,set_cons_zero→z2e
set_option maxRecDepth 100000
set_option maxHeartbeats 4000000
open Go.RowKit
attribute [local go_sem] Oper.semAt_some
theorem zin (v u:Value) (l o:List Bs) (w:World) (h:Rd w v l.length 1 (l.map sv)) (g:Rd w u o.length 1 (o.map sv)):Calls Tryz.prog 78 #[v,u] w (Ret (.bool (zcs l o)) w):=by
 have hmx:Tryz.prog.follows .mixedOrders=true:=by kernel_rfl
 obtain⟨_,hm1,A1,c1,rfl,h4⟩:=h
 obtain⟨_,hm2,A2,c2,rfl,g4⟩:=g
 have H4:=Lib.hid h4
 have G4:=Lib.hid g4
 obtain⟨n1,hn1⟩: ∃n,l.length=n:=⟨_,rfl⟩
 obtain⟨n2,hn2⟩: ∃n,o.length=n:=⟨_,rfl⟩
 have HN1:=Lib.hid hn1
 have HN2:=Lib.hid hn2
 have HQ0:Hid (zcs l o=(l.drop 0).all fun t=>decide (t∈o)):=by show _=_;rw[List.drop_zero];rfl
 obtain⟨Q,hQ⟩: ∃Q,zcs l o=Q:=⟨_,rfl⟩
 rw[hQ]at HQ0 ⊢
 rw[hn1]at hm1 H4 ⊢
 rw[hn2]at hm2 G4 ⊢
 clear h4 g4 hn1 hn2 hQ
 go_enter Tryz.func78,Tryz.ntmps78
 go_wp2_with fail
 go_loopw [5] (fun i wr=> ∃k:Nat,k<=n1/\i= .int .i64 (k:Nat)/\Hid (Q=(l.drop k).all fun t=>decide (t∈o))/\Hid (Below w.heap.size w wr)) (fun i _=>n1-(intOf i).toNat)
 case atStart=>exact⟨0,by omega,rfl,HQ0.out,by show Below _ _ _;exact bel⟩
 case round=>
  clear HQ0
  obtain⟨i,hi,rfl,HK,HB⟩:=hrel
  by_cases hlt:i<n1
  ·obtain⟨b,off,rfl,hb,hc⟩:=H4.out (by omega)
   have hkl:i<l.length:=by rw[HN1.out];exact hlt
   obtain⟨x,hx⟩: ∃x,l[i]=x:=⟨_,rfl⟩
   have e0:w.cell? ⟨b,off+i,none⟩=some (.string ⟨x.toArray⟩):=hc i (sv x) (by simp[hkl,hx])
   have HD:Hid (l.drop i=x::l.drop (i+1)):=by show _=_;rw[List.drop_eq_getElem_cons hkl,hx]
   have HEq:=Lib.hid (fun y:Bs=>show((⟨y.toArray⟩:ByteArray).toList==(⟨x.toArray⟩:ByteArray).toList)=decide (y=x) by rw[zfg])
   obtain⟨D,hD⟩: ∃D,decide (x∈o)=D:=⟨_,rfl⟩
   have HD0:Hid (D=(false||decide (x∈o.drop 0))):=by show _=_;rw[<-hD,List.drop_zero];rfl
   have HQ1:Hid (Q=(D&&(l.drop (i+1)).all fun t=>decide (t∈o))):=by show _=_;rw[HK.out,HD.out,List.all_cons,hD]
   clear hc hx hkl HK HD hD
   generalize(⟨x.toArray⟩:ByteArray)=xb at*
   obtain⟨W1,hW1⟩: ∃W,wr=W:=⟨_,rfl⟩
   rw[hW1]at HB ⊢
   clear hW1
   go_wp2_with fail
   go_loopw [6,7] (fun hh j wx=> ∃(k:Nat) (O:Bool),k<=n2/\j= .int .i64 (k:Nat)/\hh= .bool O/\Hid (D=(O||decide (x∈o.drop k)))/\Hid (Below w.heap.size w wx)) (fun _ j _=>n2-(intOf j).toNat)
   case atStart=>exact⟨0,false,by omega,rfl,rfl,HD0.out,by show Below _ _ _;exact HB.out.trans ((bel:Below W1.heap.size W1 _).mono HB.out.size)⟩
   case round=>
    clear HD0 HB
    obtain⟨k,O,hk,rfl,rfl,HKk,HB⟩:=hrel
    by_cases hlt2:k<n2
    ·obtain⟨b',off',rfl,hb',hc'⟩:=G4.out (by omega)
     have hkm:k<o.length:=by rw[HN2.out];exact hlt2
     obtain⟨y,hy⟩: ∃y,o[k]=y:=⟨_,rfl⟩
     have e1:w.cell? ⟨b',off'+k,none⟩=some (.string ⟨y.toArray⟩):=hc' k (sv y) (by simp[hkm,hy])
     have hq:=HEq.out y
     have HT:Hid (D=((O||decide (y=x))||decide (x∈o.drop (k+1)))):=by
      show _=_
      rw[HKk.out,List.drop_eq_getElem_cons hkm,hy]
      rw[Bool.eq_iff_iff]
      simp only[Bool.or_eq_true,decide_eq_true_eq,List.mem_cons]
      constructor
      ·rintro(h|rfl|h)
       ·exact .inl (.inl h)
       ·exact .inl (.inr rfl)
       ·exact .inr h
      ·rintro((h|rfl)|h)
       ·exact .inl h
       ·exact .inr (.inl rfl)
       ·exact .inr (.inr h)
     generalize decide (y=x)=D1 at*
     clear hc' hy hkm HKk
     generalize(⟨y.toArray⟩:ByteArray)=yb at*
     go_upto_region 8 with fail
     have hS0:Below w.heap.size w wr.drew:=HB.out.trans ((bel:Below wr.heap.size wr _).mono HB.out.size)
     cases O with
     |true=>
      refine zai 12 [(0,true),(1,true),(2,true),(3,true),(4,true),(5,true),(6,true),(7,true),(8,true),(9,true),(10,true),(11,true)] (fun V=>Below w.heap.size w V) hmx (by kernel_rfl) (by kernel_rfl) (by kernel_rfl) (by decide) rfl (fun c a d v w h=>by first|exact h|(obtain⟨x,y⟩:=(h:_/\_);cases d<;>exact⟨x,y⟩)) (by kernel_rfl) (by exact hS0) ?_
      refine zaa (v:= .bool true) 20 rfl rfl rfl (fun W hW=>by simp[execOp,go_sem]) ?_
      simp only[Act.put,z2d,z2f,z2e]
      refine zaa (v:= .bool true) 21 rfl rfl rfl (fun W hW=>by simp[execOp,go_sem]) ?_
      simp only[Act.put,z2d,z2f,z2e]
      refine zab 22 rfl rfl rfl ?_
      simp only[Act.put,z2d,z2f,z2e]
      refine zab 23 rfl rfl rfl ?_
      simp only[Act.put,z2d,z2f,z2e]
      refine zab 24 rfl rfl rfl ?_
      simp only[Act.put,z2d,z2f,z2e]
      refine zab 25 rfl rfl rfl ?_
      simp only[Act.put,z2d,z2f,z2e]
      refine zab 26 rfl rfl rfl ?_
      simp only[Act.put,z2d,z2f,z2e]
      refine zab 27 rfl rfl rfl ?_
      simp only[Act.put,z2d,z2f,z2e]
      refine zab 28 rfl rfl rfl ?_
      simp only[Act.put,z2d,z2f,z2e]
      refine zab 29 rfl rfl rfl ?_
      simp only[Act.put,z2d,z2f,z2e]
      refine zab 30 rfl rfl rfl ?_
      simp only[Act.put,z2d,z2f,z2e]
      refine zaa (v:= .bool true) 31 rfl rfl rfl (fun W hW=>by simp[execOp,go_sem]) ?_
      simp only[Act.put,z2d,z2f,z2e]
      dsimp only[zbe,List.drop]
      go_wp2_with fail
      go_roundw
      case rel=>exact⟨k+1,_,by omega,by go_num,rfl,HT.out,hS0.trans ((bel:Below wr.drew.heap.size wr.drew _).mono hS0.size)⟩
      case measure=>simp[intOf];omega
     |false=>
      refine zai 12 [(0,true),(1,true),(2,true),(3,true),(4,true),(5,true),(6,true),(7,true),(8,true),(9,true),(10,true),(11,true)] (fun V=>Below w.heap.size w V) hmx (by kernel_rfl) (by kernel_rfl) (by kernel_rfl) (by decide) rfl (fun c a d v w h=>by first|exact h|(obtain⟨x,y⟩:=(h:_/\_);cases d<;>exact⟨x,y⟩)) (by kernel_rfl) (by exact hS0) ?_
      refine zaa (v:= .bool false) 20 rfl rfl rfl (fun W hW=>by simp[execOp,go_sem]) ?_
      simp only[Act.put,z2d,z2f,z2e]
      refine zaa (v:= .bool false) 21 rfl rfl rfl (fun W hW=>by simp[execOp,go_sem]) ?_
      simp only[Act.put,z2d,z2f,z2e]
      refine zaa (v:= .slice (some ⟨b',off',none⟩) n2 c2) 22 rfl rfl rfl (fun W hW=>by simp[execOp,go_sem]) ?_
      simp only[Act.put,z2d,z2f,z2e]
      refine zaa (v:= .int .i64 (k:Nat)) 23 rfl rfl rfl (fun W hW=>by simp[execOp,go_sem]) ?_
      simp only[Act.put,z2d,z2f,z2e]
      refine zaa (v:= .pointer (some ⟨b',off'+k,none⟩)) 24 rfl rfl rfl (fun W hW=>by simp[execOp,go_sem,hlt2];try omega) ?_
      simp only[Act.put,z2d,z2f,z2e]
      refine zaa (v:= .string yb) 25 rfl rfl rfl (fun W hW=>by have q:=(hW.cell (p:=⟨b',off'+k,none⟩) hb').trans e1;simp[execOp,go_sem,q]) ?_
      simp only[Act.put,z2d,z2f,z2e]
      refine zaa (v:= .slice (some ⟨b,off,none⟩) n1 c1) 26 rfl rfl rfl (fun W hW=>by simp[execOp,go_sem]) ?_
      simp only[Act.put,z2d,z2f,z2e]
      refine zaa (v:= .int .i64 (i:Nat)) 27 rfl rfl rfl (fun W hW=>by simp[execOp,go_sem]) ?_
      simp only[Act.put,z2d,z2f,z2e]
      refine zaa (v:= .pointer (some ⟨b,off+i,none⟩)) 28 rfl rfl rfl (fun W hW=>by simp[execOp,go_sem,hlt];try omega) ?_
      simp only[Act.put,z2d,z2f,z2e]
      refine zaa (v:= .string xb) 29 rfl rfl rfl (fun W hW=>by have q:=(hW.cell (p:=⟨b,off+i,none⟩) hb).trans e0;simp[execOp,go_sem,q]) ?_
      simp only[Act.put,z2d,z2f,z2e]
      refine zaa (v:= .bool D1) 30 rfl rfl rfl (fun W hW=>by simp[execOp,go_sem,hq]) ?_
      simp only[Act.put,z2d,z2f,z2e]
      refine zaa (v:= .bool D1) 31 rfl rfl rfl (fun W hW=>by simp[execOp,go_sem]) ?_
      simp only[Act.put,z2d,z2f,z2e]
      dsimp only[zbe,List.drop]
      go_wp2_with fail
      go_roundw
      case rel=>exact⟨k+1,_,by omega,by go_num,rfl,HT.out,hS0.trans ((bel:Below wr.drew.heap.size wr.drew _).mono hS0.size)⟩
      case measure=>simp[intOf];omega
    ·have HF:Hid (D=O):=by show _=_;rw[HKk.out,List.drop_eq_nil_of_le (by rw[HN2.out];omega)];simp
     clear HKk
     cases O with
     |true=>
      have HQ2:Hid (Q=(l.drop (i+1)).all fun t=>decide (t∈o)):=by show _=_;rw[HQ1.out,HF.out];rfl
      clear HQ1 HF
      go_wp2_with fail
      go_roundw
      case rel=>exact⟨i+1,by omega,by go_num,HQ2.out,HB.out.trans ((bel:Below wr.heap.size wr _).mono HB.out.size)⟩
      case measure=>simp[intOf];omega
     |false=>
      have HQ2:Hid (Q=false):=by show _=_;rw[HQ1.out,HF.out];rfl
      clear HQ1 HF
      go_wp2_with fail
      go_ret
      exact Ret.of (by rw[HQ2.out];rfl) (HB.out.trans ((bel:Below wr.heap.size wr _).mono HB.out.size))
  ·have HQ2:Hid (Q=true):=by show _=_;rw[HK.out,List.drop_eq_nil_of_le (by rw[HN1.out];omega)];rfl
   go_wp2_with fail
   go_ret
   exact Ret.of (by rw[HQ2.out];rfl) (HB.out.trans ((bel:Below wr.heap.size wr _).mono HB.out.size))
end Go.Proofs.YtbhhgbgfaemfdaaGreatDoor

