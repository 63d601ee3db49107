/- The walks of what is wrong with a policy; of what a tag has always. -/
import Derived.Lib.SliceRun
import Derived.Test.YtbhhgbgfaemfdaaGreatDoorC2
import Derived.Test.YtbhhgbgfaemfdaaGreatDoorC1
namespace Go.Proofs.YtbhhgbgfaemfdaaGreatDoor
open Go.RowKit
attribute [local go_sem] Oper.semAt_some
theorem Rd.bel {w W : World} {v : Value} {n size : Nat} {xs : List Value} (h : Rd w v n size xs) (hb : Below w.heap.size w W) : Rd W v n size xs := by
 obtain ⟨X, rfl⟩ := grow_of_below hb
 exact h.grow X
theorem dAttr_any (x : Alw) (w : World) : Calls Tryz.prog 189 #[x.agg] w (Ret (.bool (unsafeB x.name)) w) := by
 have HU := Lib.hid (fun W => show Calls Tryz.prog 190 #[.string ⟨x.name.toArray⟩] W _ from unsafe_any x.name W)
 unfold Alw.agg sv
 generalize unsafeB x.name = u at *
 generalize (⟨x.tag.toArray⟩ : ByteArray) = a0 at *
 generalize (⟨x.name.toArray⟩ : ByteArray) = a1 at *
 go_enter Tryz.func189, Tryz.ntmps189
 go_wp2_with (go_at_call 190; (with_reducible refine (HU.out _).mono ?_); rintro e W1 ⟨rfl, X1, rfl⟩)
 go_ret
 exact Ret.of rfl (by (repeat with_reducible first | exact Below.refl _ _ | refine Below.drew ?_ | refine Below.drewN ?_ _ | refine Below.alloc ?_ ?_ _ | refine Below.grow ?_ ?_ _ | refine Below.setCell ?_ ?_ _); all_goals first | omega | (simp [go_sem] <;> omega))
theorem dForce_any (x : Frc) (w : World) : Calls Tryz.prog 191 #[x.agg] w (Ret (.bool (unsafeB x.name)) w) := by
 have HU := Lib.hid (fun W => show Calls Tryz.prog 190 #[.string ⟨x.name.toArray⟩] W _ from unsafe_any x.name W)
 unfold Frc.agg sv
 generalize unsafeB x.name = u at *
 generalize (⟨x.tag.toArray⟩ : ByteArray) = a0 at *
 generalize (⟨x.name.toArray⟩ : ByteArray) = a1 at *
 generalize (⟨x.value.toArray⟩ : ByteArray) = a2 at *
 go_enter Tryz.func191, Tryz.ntmps191
 go_wp2_with (go_at_call 190; (with_reducible refine (HU.out _).mono ?_); rintro e W1 ⟨rfl, X1, rfl⟩)
 go_ret
 exact Ret.of rfl (by (repeat with_reducible first | exact Below.refl _ _ | refine Below.drew ?_ | refine Below.drewN ?_ _ | refine Below.alloc ?_ ?_ _ | refine Below.grow ?_ ?_ _ | refine Below.setCell ?_ ?_ _); all_goals first | omega | (simp [go_sem] <;> omega))
set_option maxRecDepth 100000 in
set_option maxHeartbeats 3200000 in
theorem deniedP_any (v : Value) (p : Pol) (w : World) (h : PolV w (fun _ => False) v p) : Calls Tryz.prog 154 #[v] w (Ret (.bool (badB p)) w) := by
 obtain ⟨v0, v1, v2, v3, v4, v5, rfl, ⟨A0, k0, rfl, _, h0, _⟩, ⟨A1, k1, rfl, _, h1, _⟩, ⟨A2, k2, rfl, _, _, _⟩, ⟨A3, k3, rfl, _, _, _⟩, ⟨A4, k4, rfl, _, h4, _⟩, ⟨A5, k5, rfl, _, h5, _⟩⟩ := h
 have HT := Lib.hid (fun W (hb : Below w.heap.size w W) => show Calls Tryz.prog 101 #[.slice A0 (fN p 0) k0, .func (.func 192) #[] #[]] W _ from hasS_fn _ p.tags _ _ _ deniedB W (h0.bel hb) ⟨enters_of Tryz.func192 (by kernel_rfl) rfl, fun t _ W' _ => denied_any t W'⟩)
 have HS := Lib.hid (fun W (hb : Below w.heap.size w W) => show Calls Tryz.prog 101 #[.slice A1 (fN p 1) k1, .func (.func 193) #[] #[]] W _ from hasS_fn _ p.schemes _ _ _ runsB W (h1.bel hb) ⟨enters_of Tryz.func193 (by kernel_rfl) rfl, fun t _ W' _ => runs_any t W'⟩)
 have HA := Lib.hid (fun W (hb : Below w.heap.size w W) => show Calls Tryz.prog 151 #[.slice A4 (fN p 4) k4, .func (.func 189) #[] #[]] W _ from hasA_fn _ p.attrs _ _ _ (fun a => unsafeB a.name) W (h4.bel hb) ⟨enters_of Tryz.func189 (by kernel_rfl) rfl, fun t _ W' _ => dAttr_any t W'⟩)
 have HF := Lib.hid (fun W (hb : Below w.heap.size w W) => show Calls Tryz.prog 149 #[.slice A5 (fN p 5) k5, .func (.func 191) #[] #[]] W _ from hasF_fn _ p.forces _ _ _ (fun a => unsafeB a.name) W (h5.bel hb) ⟨enters_of Tryz.func191 (by kernel_rfl) rfl, fun t _ W' _ => dForce_any t W'⟩)
 unfold badB
 generalize p.tags.any deniedB = T at *
 generalize p.attrs.any (fun a => unsafeB a.name) = A at *
 generalize p.forces.any (fun a => unsafeB a.name) = F at *
 generalize p.schemes.any runsB = S at *
 clear h0 h1 h4 h5
 cases T <;> cases A <;> cases F
 all_goals
  go_enter Tryz.func154, Tryz.ntmps154
  go_upto_region 3 with fail
  refine name_world fun W0 hW0 => ?_
  obtain ⟨B, hB⟩ : ∃ B, w.heap.size = B := ⟨_, rfl⟩
  have hb0 : Below w.heap.size w W0 := by rw [hW0]; exact (by (repeat with_reducible first | exact Below.refl _ _ | refine Below.drew ?_ | refine Below.drewN ?_ _ | refine Below.alloc ?_ ?_ _ | refine Below.grow ?_ ?_ _ | refine Below.setCell ?_ ?_ _); all_goals first | omega | (simp [go_sem] <;> omega))
  have c0 : W0.cell? ⟨B, 0, none⟩ = some (.slice A0 (fN p 0) k0) := by rw [hW0, ← hB]; simp [go_sem]
  have c1 : W0.cell? ⟨B, 1, none⟩ = some (.slice A1 (fN p 1) k1) := by rw [hW0, ← hB]; simp [go_sem]
  have c4 : W0.cell? ⟨B, 4, none⟩ = some (.slice A4 (fN p 4) k4) := by rw [hW0, ← hB]; simp [go_sem]
  have c5 : W0.cell? ⟨B, 5, none⟩ = some (.slice A5 (fN p 5) k5) := by rw [hW0, ← hB]; simp [go_sem]
  have hBl : B < W0.heap.size := by rw [hW0, ← hB]; simp
  have HB0 := Lib.hid (fun W (hb : Below W0.heap.size W0 W) => show Below w.heap.size w W from hb0.trans (hb.mono hb0.size))
  rw [hB]
  clear hW0 hb0
  go_wp2_with (first
   | (go_at_call 101; (with_reducible refine (HT.out _ (HB0.out _ (by (repeat with_reducible first | exact Below.refl _ _ | refine Below.drew ?_ | refine Below.drewN ?_ _ | refine Below.alloc ?_ ?_ _ | refine Below.grow ?_ ?_ _ | refine Below.setCell ?_ ?_ _); all_goals first | omega | (simp [go_sem] <;> omega)))).mono ?_); rintro e W1 ⟨rfl, X1, rfl⟩)
   | (go_at_call 151; (with_reducible refine (HA.out _ (HB0.out _ (by (repeat with_reducible first | exact Below.refl _ _ | refine Below.drew ?_ | refine Below.drewN ?_ _ | refine Below.alloc ?_ ?_ _ | refine Below.grow ?_ ?_ _ | refine Below.setCell ?_ ?_ _); all_goals first | omega | (simp [go_sem] <;> omega)))).mono ?_); rintro e W2 ⟨rfl, X2, rfl⟩)
   | (go_at_call 149; (with_reducible refine (HF.out _ (HB0.out _ (by (repeat with_reducible first | exact Below.refl _ _ | refine Below.drew ?_ | refine Below.drewN ?_ _ | refine Below.alloc ?_ ?_ _ | refine Below.grow ?_ ?_ _ | refine Below.setCell ?_ ?_ _); all_goals first | omega | (simp [go_sem] <;> omega)))).mono ?_); rintro e W3 ⟨rfl, X3, rfl⟩)
   | (go_at_call 101; (with_reducible refine (HS.out _ (HB0.out _ (by (repeat with_reducible first | exact Below.refl _ _ | refine Below.drew ?_ | refine Below.drewN ?_ _ | refine Below.alloc ?_ ?_ _ | refine Below.grow ?_ ?_ _ | refine Below.setCell ?_ ?_ _); all_goals first | omega | (simp [go_sem] <;> omega)))).mono ?_); rintro e W4 ⟨rfl, X4, rfl⟩))
  go_ret
  exact Ret.of rfl (HB0.out _ (by (repeat with_reducible first | exact Below.refl _ _ | refine Below.drew ?_ | refine Below.drewN ?_ _ | refine Below.alloc ?_ ?_ _ | refine Below.grow ?_ ?_ _ | refine Below.setCell ?_ ?_ _); all_goals first | omega | (simp [go_sem] <;> omega)))
end Go.Proofs.YtbhhgbgfaemfdaaGreatDoor
namespace Go.Proofs.YtbhhgbgfaemfdaaGreatDoor
open Go.RowKit
attribute [local go_sem] Oper.semAt_some
structure PolWd (p : Pol) : Prop where
 tags : ∀ t ∈ p.tags, t.length ≤ 64
 schemes : ∀ t ∈ p.schemes, t.length ≤ 64
 css : ∀ t ∈ p.css, t.length ≤ 64
 drops : ∀ t ∈ p.drops, t.length ≤ 64
 attrs : ∀ a ∈ p.attrs, a.tag.length ≤ 64 ∧ a.name.length ≤ 64
 forces : ∀ f ∈ p.forces, f.tag.length ≤ 64 ∧ f.name.length ≤ 64
theorem strange_any (B g : Nat) (p : Pol) (t : Bs) (w : World) (h : RulesV w g p) (hc : w.cell? ⟨B, 0, none⟩ = some (.pointer (some ⟨g, 0, none⟩))) (_hB : B < w.heap.size) (ht : t.length ≤ maxLen) :
  Calls Tryz.prog 145 #[sv t, .pointer (some ⟨B, 0, none⟩)] w (Ret (.bool (!tagR p t)) w) := by
 have HT := Lib.hid (fun W (hb : Below w.heap.size w W) => show Calls Tryz.prog 146 #[.pointer (some ⟨g, 0, none⟩), .string ⟨t.toArray⟩] W _ from tag_any g p t W (h.below hb) ht)
 generalize tagR p t = D at *
 clear h ht
 unfold sv
 generalize (⟨t.toArray⟩ : ByteArray) = x at *
 go_enter Tryz.func145, Tryz.ntmps145
 go_wp2_with (go_at_call 146; (with_reducible refine (HT.out _ (by (repeat with_reducible first | exact Below.refl _ _ | refine Below.drew ?_ | refine Below.drewN ?_ _ | refine Below.alloc ?_ ?_ _ | refine Below.grow ?_ ?_ _ | refine Below.setCell ?_ ?_ _); all_goals first | omega | (simp [go_sem] <;> omega))).mono ?_); rintro e W1 ⟨rfl, X1, rfl⟩)
 go_ret
 exact Ret.of rfl (by (repeat with_reducible first | exact Below.refl _ _ | refine Below.drew ?_ | refine Below.drewN ?_ _ | refine Below.alloc ?_ ?_ _ | refine Below.grow ?_ ?_ _ | refine Below.setCell ?_ ?_ _); all_goals first | omega | (simp [go_sem] <;> omega))
theorem long_any (P : Nat) (p : Pol) (t : Bs) (w : World) (hc : w.cell? ⟨P, 8, none⟩ = some (.int .i64 p.name)) (_hP : P < w.heap.size) : Calls Tryz.prog 147 #[sv t, .pointer (some ⟨P, 0, none⟩)] w (Ret (.bool (longB p t)) w) := by
 unfold longB
 have hl : t.length = (⟨t.toArray⟩ : ByteArray).size := by show _ = t.toArray.size; simp
 rw [hl]
 unfold sv
 generalize (⟨t.toArray⟩ : ByteArray) = x at *
 generalize p.name = n at *
 clear hl
 go_enter Tryz.func147, Tryz.ntmps147
 go_wp2_with fail
 go_ret
 exact Ret.of rfl (by (repeat with_reducible first | exact Below.refl _ _ | refine Below.drew ?_ | refine Below.drewN ?_ _ | refine Below.alloc ?_ ?_ _ | refine Below.grow ?_ ?_ _ | refine Below.setCell ?_ ?_ _); all_goals first | omega | (simp [go_sem] <;> omega))
set_option maxRecDepth 100000 in
set_option maxHeartbeats 800000 in
theorem wForce_any (S B g : Nat) (p : Pol) (f : Frc) (w : World) (h : RulesV w g p) (hc : w.cell? ⟨B, 0, none⟩ = some (.pointer (some ⟨g, 0, none⟩))) (hB : B < w.heap.size)
  (hs : w.cell? ⟨S, 0, none⟩ = some (.func (.func 145) #[] #[.pointer (some ⟨B, 0, none⟩)])) (hS : S < w.heap.size) (ht : f.tag.length ≤ maxLen) :
  Calls Tryz.prog 150 #[f.agg, .pointer (some ⟨S, 0, none⟩)] w (Ret (.bool (!tagR p f.tag)) w) := by
 have HT := Lib.hid (fun W (hb : Below w.heap.size w W) => show Calls Tryz.prog 145 #[.string ⟨f.tag.toArray⟩, .pointer (some ⟨B, 0, none⟩)] W _ from strange_any B g p f.tag W (h.below hb) ((hb.cell (p := ⟨B, 0, none⟩) hB).trans hc) (Nat.lt_of_lt_of_le hB hb.size) ht)
 generalize (!tagR p f.tag) = D at *
 clear h ht hc
 unfold Frc.agg sv
 generalize (⟨f.tag.toArray⟩ : ByteArray) = a0 at *
 generalize (⟨f.name.toArray⟩ : ByteArray) = a1 at *
 generalize (⟨f.value.toArray⟩ : ByteArray) = a2 at *
 go_enter Tryz.func150, Tryz.ntmps150
 go_wp2_with (go_at_call 145; (with_reducible refine (HT.out _ (by (repeat with_reducible first | exact Below.refl _ _ | refine Below.drew ?_ | refine Below.drewN ?_ _ | refine Below.alloc ?_ ?_ _ | refine Below.grow ?_ ?_ _ | refine Below.setCell ?_ ?_ _); all_goals first | omega | (simp [go_sem] <;> omega))).mono ?_); rintro e W1 ⟨rfl, X1, rfl⟩)
 go_ret
 exact Ret.of rfl (by (repeat with_reducible first | exact Below.refl _ _ | refine Below.drew ?_ | refine Below.drewN ?_ _ | refine Below.alloc ?_ ?_ _ | refine Below.grow ?_ ?_ _ | refine Below.setCell ?_ ?_ _); all_goals first | omega | (simp [go_sem] <;> omega))
set_option maxRecDepth 100000 in
set_option maxHeartbeats 800000 in
theorem wAttr_any (S B g : Nat) (p : Pol) (a : Alw) (w : World) (h : RulesV w g p) (hc : w.cell? ⟨B, 0, none⟩ = some (.pointer (some ⟨g, 0, none⟩))) (hB : B < w.heap.size)
  (hs : w.cell? ⟨S, 0, none⟩ = some (.func (.func 145) #[] #[.pointer (some ⟨B, 0, none⟩)])) (hS : S < w.heap.size) (ht : a.tag.length ≤ maxLen) :
  Calls Tryz.prog 152 #[a.agg, .pointer (some ⟨S, 0, none⟩)] w (Ret (.bool (!decide (a.tag = [42]) && !tagR p a.tag)) w) := by
 have HT := Lib.hid (fun W (hb : Below w.heap.size w W) => show Calls Tryz.prog 145 #[.string ⟨a.tag.toArray⟩, .pointer (some ⟨B, 0, none⟩)] W _ from strange_any B g p a.tag W (h.below hb) ((hb.cell (p := ⟨B, 0, none⟩) hB).trans hc) (Nat.lt_of_lt_of_le hB hb.size) ht)
 generalize (!tagR p a.tag) = D at *
 have hq : ((⟨a.tag.toArray⟩ : ByteArray).toList == [42]) = decide (a.tag = [42]) := ba_bqD _ _
 generalize decide (a.tag = [42]) = E at *
 clear h ht hc
 unfold Alw.agg sv
 generalize (⟨a.tag.toArray⟩ : ByteArray) = a0 at *
 generalize (⟨a.name.toArray⟩ : ByteArray) = a1 at *
 cases E
 all_goals
  go_enter Tryz.func152, Tryz.ntmps152
  go_wp2_with (go_at_call 145; (with_reducible refine (HT.out _ (by (repeat with_reducible first | exact Below.refl _ _ | refine Below.drew ?_ | refine Below.drewN ?_ _ | refine Below.alloc ?_ ?_ _ | refine Below.grow ?_ ?_ _ | refine Below.setCell ?_ ?_ _); all_goals first | omega | (simp [go_sem] <;> omega))).mono ?_); rintro e W1 ⟨rfl, X1, rfl⟩)
  go_ret
  exact Ret.of rfl (by (repeat with_reducible first | exact Below.refl _ _ | refine Below.drew ?_ | refine Below.drewN ?_ _ | refine Below.alloc ?_ ?_ _ | refine Below.grow ?_ ?_ _ | refine Below.setCell ?_ ?_ _); all_goals first | omega | (simp [go_sem] <;> omega))
set_option maxRecDepth 100000 in
set_option maxHeartbeats 800000 in
theorem wOver_any (L P : Nat) (p : Pol) (f : Frc) (w : World) (hc : w.cell? ⟨P, 8, none⟩ = some (.int .i64 p.name)) (hd : w.cell? ⟨P, 9, none⟩ = some (.int .i64 p.value)) (hP : P < w.heap.size)
  (hs : w.cell? ⟨L, 0, none⟩ = some (.func (.func 147) #[] #[.pointer (some ⟨P, 0, none⟩)])) (hL : L < w.heap.size) :
  Calls Tryz.prog 153 #[f.agg, .pointer (some ⟨L, 0, none⟩), .pointer (some ⟨P, 0, none⟩)] w (Ret (.bool (overB p f)) w) := by
 have HT := Lib.hid (fun W (hb : Below w.heap.size w W) => show Calls Tryz.prog 147 #[.string ⟨f.name.toArray⟩, .pointer (some ⟨P, 0, none⟩)] W _ from long_any P p f.name W ((hb.cell (p := ⟨P, 8, none⟩) hP).trans hc) (Nat.lt_of_lt_of_le hP hb.size))
 have hv : f.value.length = (⟨f.value.toArray⟩ : ByteArray).size := by show _ = f.value.toArray.size; simp
 have HO : Hid (overB p f = (longB p f.name || decide (p.value < ((⟨f.value.toArray⟩ : ByteArray).size : Int)))) := by show _ = _; unfold overB longB; rw [hv]
 rw [HO.out]
 clear HO hv
 generalize longB p f.name = D at *
 generalize p.value = n at *
 clear hc
 unfold Frc.agg sv
 generalize (⟨f.tag.toArray⟩ : ByteArray) = a0 at *
 generalize (⟨f.name.toArray⟩ : ByteArray) = a1 at *
 generalize (⟨f.value.toArray⟩ : ByteArray) = a2 at *
 cases D
 all_goals
  go_enter Tryz.func153, Tryz.ntmps153
  go_wp2_with (go_at_call 147; (with_reducible refine (HT.out _ (by (repeat with_reducible first | exact Below.refl _ _ | refine Below.drew ?_ | refine Below.drewN ?_ _ | refine Below.alloc ?_ ?_ _ | refine Below.grow ?_ ?_ _ | refine Below.setCell ?_ ?_ _); all_goals first | omega | (simp [go_sem] <;> omega))).mono ?_); rintro e W1 ⟨rfl, X1, rfl⟩)
  go_ret
  exact Ret.of rfl (by (repeat with_reducible first | exact Below.refl _ _ | refine Below.drew ?_ | refine Below.drewN ?_ _ | refine Below.alloc ?_ ?_ _ | refine Below.grow ?_ ?_ _ | refine Below.setCell ?_ ?_ _); all_goals first | omega | (simp [go_sem] <;> omega))
end Go.Proofs.YtbhhgbgfaemfdaaGreatDoor
namespace Go.Proofs.YtbhhgbgfaemfdaaGreatDoor
open Go.RowKit
attribute [local go_sem] Oper.semAt_some
set_option maxRecDepth 100000 in
set_option maxHeartbeats 6400000 in
theorem wrong_any (g : Nat) (v : Value) (p : Pol) (w : World) (hr : RulesV w g p) (h : PolV w (fun _ => False) v p) (hw : PolWd p) : Calls Tryz.prog 91 #[.pointer (some ⟨g, 0, none⟩), v] w (Ret (.int .i64 (wrongR p : Nat)) w) := by
 have HV := Lib.hid h
 obtain ⟨v0, v1, v2, v3, v4, v5, rfl, ⟨A0, k0, rfl, _, h0, _⟩, ⟨A1, k1, rfl, _, _, _⟩, ⟨A2, k2, rfl, _, _, _⟩, ⟨A3, k3, rfl, _, _, _⟩, ⟨A4, k4, rfl, _, h4, _⟩, ⟨A5, k5, rfl, _, h5, _⟩⟩ := h
 have HD := Lib.hid (fun W (hb : Below w.heap.size w W) => deniedP_any _ p W (HV.out.below hb))
 have HW : Hid (wrongR p = if badB p = true then 6 else if p.tags.any (dropR p) = true then 5 else if (p.forces.any (fun f => !tagR p f.tag) || p.attrs.any (fun a => !decide (a.tag = [42]) && !tagR p a.tag)) = true then 4 else if (p.forces.any (overB p) || p.tags.any (longB p)) = true then 1 else 0) := rfl
 obtain ⟨R, hR⟩ : ∃ R, wrongR p = R := ⟨_, rfl⟩
 rw [hR] at HW ⊢
 have HRl := Lib.hid hr
 have HWd := Lib.hid hw
 have H0 := Lib.hid h0
 have H4 := Lib.hid h4
 have H5 := Lib.hid h5
 have hgl := hr.lt
 clear hR HV hr hw h0 h4 h5
 go_enter Tryz.func91, Tryz.ntmps91
 go_upto_region 3 with fail
 refine name_world fun W0 hW0 => ?_
 obtain ⟨B, hB⟩ : ∃ B, w.heap.size = B := ⟨_, rfl⟩
 have hb0 : Below w.heap.size w W0 := by rw [hW0]; exact (by (repeat with_reducible first | exact Below.refl _ _ | refine Below.drew ?_ | refine Below.drewN ?_ _ | refine Below.alloc ?_ ?_ _ | refine Below.grow ?_ ?_ _ | refine Below.setCell ?_ ?_ _); all_goals first | omega | (simp [go_sem] <;> omega))
 have cB : W0.cell? ⟨B, 0, none⟩ = some (.pointer (some ⟨g, 0, none⟩)) := by rw [hW0, ← hB]; simp [go_sem]
 have c0 : W0.cell? ⟨B + 1, 0, none⟩ = some (.slice A0 (fN p 0) k0) := by rw [hW0, ← hB]; simp [go_sem]
 have c1 : W0.cell? ⟨B + 1, 1, none⟩ = some (.slice A1 (fN p 1) k1) := by rw [hW0, ← hB]; simp [go_sem]
 have c2 : W0.cell? ⟨B + 1, 2, none⟩ = some (.slice A2 (fN p 2) k2) := by rw [hW0, ← hB]; simp [go_sem]
 have c3 : W0.cell? ⟨B + 1, 3, none⟩ = some (.slice A3 (fN p 3) k3) := by rw [hW0, ← hB]; simp [go_sem]
 have c4 : W0.cell? ⟨B + 1, 4, none⟩ = some (.slice A4 (fN p 4) k4) := by rw [hW0, ← hB]; simp [go_sem]
 have c5 : W0.cell? ⟨B + 1, 5, none⟩ = some (.slice A5 (fN p 5) k5) := by rw [hW0, ← hB]; simp [go_sem]
 have c6 : W0.cell? ⟨B + 1, 6, none⟩ = some (.bool p.rel) := by rw [hW0, ← hB]; simp [go_sem]
 have c7 : W0.cell? ⟨B + 1, 7, none⟩ = some (.int .i64 p.depth) := by rw [hW0, ← hB]; simp [go_sem]
 have c8 : W0.cell? ⟨B + 1, 8, none⟩ = some (.int .i64 p.name) := by rw [hW0, ← hB]; simp [go_sem]
 have c9 : W0.cell? ⟨B + 1, 9, none⟩ = some (.int .i64 p.value) := by rw [hW0, ← hB]; simp [go_sem]
 have cS : W0.cell? ⟨B + 2, 0, none⟩ = some (.func (.func 145) #[] #[.pointer (some ⟨B, 0, none⟩)]) := by rw [hW0, ← hB]; simp [go_sem]
 have cL : W0.cell? ⟨B + 3, 0, none⟩ = some (.func (.func 147) #[] #[.pointer (some ⟨B + 1, 0, none⟩)]) := by rw [hW0, ← hB]; simp [go_sem]
 have hBl : B + 3 < W0.heap.size := by rw [hW0, ← hB]; simp
 have hBl0 : B < W0.heap.size := by omega
 have hBl1 : B + 1 < W0.heap.size := by omega
 have hBl2 : B + 2 < W0.heap.size := by omega
 have HB0 := Lib.hid (fun W (hb : Below W0.heap.size W0 W) => show Below w.heap.size w W from hb0.trans (hb.mono hb0.size))
 have HRw := Lib.hid (HRl.out.below hb0)
 have HC := Lib.hid (fun W (hb : Below W0.heap.size W0 W) b j x (hl : b < W0.heap.size) (hc : W0.cell? ⟨b, j, none⟩ = some x) => (show W.cell? ⟨b, j, none⟩ = some x from (hb.cell (p := ⟨b, j, none⟩) hl).trans hc))
 have hmx : (64 : Nat) ≤ maxLen := by simp [maxLen]
 have HBo := Lib.hid (fun W (hb : Below W0.heap.size W0 W) => show Calls Tryz.prog 101 #[.slice A0 (fN p 0) k0, .func (.func 148) #[.pointer (some ⟨g, 0, none⟩)] #[]] W _ from
  hasS_fn _ p.tags _ _ _ (dropR p) W (H0.out.bel (HB0.out W hb)) ⟨enters_of Tryz.func148 (by kernel_rfl) rfl, fun t ht W' hb' => drop_any g p t W' ((HRw.out.below hb).below hb') (Nat.le_trans (HWd.out.tags t ht) hmx)⟩)
 have HFo := Lib.hid (fun W (hb : Below W0.heap.size W0 W) => show Calls Tryz.prog 149 #[.slice A5 (fN p 5) k5, .func (.func 150) #[] #[.pointer (some ⟨B + 2, 0, none⟩)]] W _ from
  hasF_fn _ p.forces _ _ _ (fun f => !tagR p f.tag) W (H5.out.bel (HB0.out W hb)) ⟨enters_of Tryz.func150 (by kernel_rfl) rfl, fun f hf W' hb' => wForce_any (B + 2) B g p f W' ((HRw.out.below hb).below hb') (HC.out W' (hb.trans (hb'.mono hb.size)) _ _ _ hBl0 cB) (by have := hb.size; have := hb'.size; omega) (HC.out W' (hb.trans (hb'.mono hb.size)) _ _ _ hBl2 cS) (by have := hb.size; have := hb'.size; omega) (Nat.le_trans (HWd.out.forces f hf).1 hmx)⟩)
 have HAt := Lib.hid (fun W (hb : Below W0.heap.size W0 W) => show Calls Tryz.prog 151 #[.slice A4 (fN p 4) k4, .func (.func 152) #[] #[.pointer (some ⟨B + 2, 0, none⟩)]] W _ from
  hasA_fn _ p.attrs _ _ _ (fun a => !decide (a.tag = [42]) && !tagR p a.tag) W (H4.out.bel (HB0.out W hb)) ⟨enters_of Tryz.func152 (by kernel_rfl) rfl, fun f hf W' hb' => wAttr_any (B + 2) B g p f W' ((HRw.out.below hb).below hb') (HC.out W' (hb.trans (hb'.mono hb.size)) _ _ _ hBl0 cB) (by have := hb.size; have := hb'.size; omega) (HC.out W' (hb.trans (hb'.mono hb.size)) _ _ _ hBl2 cS) (by have := hb.size; have := hb'.size; omega) (Nat.le_trans (HWd.out.attrs f hf).1 hmx)⟩)
 have HOv := Lib.hid (fun W (hb : Below W0.heap.size W0 W) => show Calls Tryz.prog 149 #[.slice A5 (fN p 5) k5, .func (.func 153) #[] #[.pointer (some ⟨B + 3, 0, none⟩), .pointer (some ⟨B + 1, 0, none⟩)]] W _ from
  hasF_fn _ p.forces _ _ _ (overB p) W (H5.out.bel (HB0.out W hb)) ⟨enters_of Tryz.func153 (by kernel_rfl) rfl, fun f _ W' hb' => wOver_any (B + 3) (B + 1) p f W' (HC.out W' (hb.trans (hb'.mono hb.size)) _ _ _ hBl1 c8) (HC.out W' (hb.trans (hb'.mono hb.size)) _ _ _ hBl1 c9) (by have := hb.size; have := hb'.size; omega) (HC.out W' (hb.trans (hb'.mono hb.size)) _ _ _ hBl cL) (by have := hb.size; have := hb'.size; omega)⟩)
 have HLo := Lib.hid (fun W (hb : Below W0.heap.size W0 W) => show Calls Tryz.prog 101 #[.slice A0 (fN p 0) k0, .func (.func 147) #[] #[.pointer (some ⟨B + 1, 0, none⟩)]] W _ from
  hasS_fn _ p.tags _ _ _ (longB p) W (H0.out.bel (HB0.out W hb)) ⟨enters_of Tryz.func147 (by kernel_rfl) rfl, fun t _ W' hb' => long_any (B + 1) p t W' (HC.out W' (hb.trans (hb'.mono hb.size)) _ _ _ hBl1 c8) (by have := hb.size; have := hb'.size; omega)⟩)
 have HDn := Lib.hid (fun W (hb : Below W0.heap.size W0 W) => HD.out W (HB0.out W hb))
 generalize p.tags.any (dropR p) = Bo at *
 generalize p.forces.any (fun f => !tagR p f.tag) = Fo at *
 generalize p.attrs.any (fun a => !decide (a.tag = [42]) && !tagR p a.tag) = At at *
 generalize p.forces.any (overB p) = Ov at *
 generalize p.tags.any (longB p) = Lo at *
 generalize badB p = Dn at *
 rw [hB]
 clear hW0 hb0 HD HRl HWd H0 H4 H5 HRw HC hmx
 go_upto_region 7 with (first
  | (go_at_call 101; (with_reducible refine (HBo.out _ (by (repeat with_reducible first | exact Below.refl _ _ | refine Below.drew ?_ | refine Below.drewN ?_ _ | refine Below.alloc ?_ ?_ _ | refine Below.grow ?_ ?_ _ | refine Below.setCell ?_ ?_ _); all_goals first | omega | (simp [go_sem] <;> omega))).mono ?_); rintro e W1 ⟨rfl, X1, rfl⟩)
  | (go_at_call 149; (with_reducible refine (Ret.flat (HFo.out _ (by (repeat with_reducible first | exact Below.refl _ _ | refine Below.drew ?_ | refine Below.drewN ?_ _ | refine Below.alloc ?_ ?_ _ | refine Below.grow ?_ ?_ _ | refine Below.setCell ?_ ?_ _); all_goals first | omega | (simp [go_sem] <;> omega)))).mono ?_); rintro e W2 ⟨rfl, X2, rfl⟩)
  | (go_at_call 151; (with_reducible refine (Ret.flat (HAt.out _ (by (repeat with_reducible first | exact Below.refl _ _ | refine Below.drew ?_ | refine Below.drewN ?_ _ | refine Below.alloc ?_ ?_ _ | refine Below.grow ?_ ?_ _ | refine Below.setCell ?_ ?_ _); all_goals first | omega | (simp [go_sem] <;> omega)))).mono ?_); rintro e W3 ⟨rfl, X3, rfl⟩)
  | (go_at_call 149; (with_reducible refine (Ret.flat (HOv.out _ (by (repeat with_reducible first | exact Below.refl _ _ | refine Below.drew ?_ | refine Below.drewN ?_ _ | refine Below.alloc ?_ ?_ _ | refine Below.grow ?_ ?_ _ | refine Below.setCell ?_ ?_ _); all_goals first | omega | (simp [go_sem] <;> omega)))).mono ?_); rintro e W4 ⟨rfl, X4, rfl⟩))
 clear HBo HFo HAt HOv
 cases Dn with
 | true =>
  have HR : Hid (R = 6) := HW.out
  clear HW
  go_wp2_with (go_at_call 154; (with_reducible refine (Ret.flat (HDn.out _ (by (repeat with_reducible first | exact Below.refl _ _ | refine Below.drew ?_ | refine Below.drewN ?_ _ | refine Below.alloc ?_ ?_ _ | refine Below.grow ?_ ?_ _ | refine Below.setCell ?_ ?_ _); all_goals first | omega | (simp [go_sem] <;> omega)))).mono ?_); rintro e W5 ⟨rfl, X5, rfl⟩)
  go_ret
  exact Ret.of (by rw [HR.out]; rfl) (HB0.out _ (by (repeat with_reducible first | exact Below.refl _ _ | refine Below.drew ?_ | refine Below.drewN ?_ _ | refine Below.alloc ?_ ?_ _ | refine Below.grow ?_ ?_ _ | refine Below.setCell ?_ ?_ _); all_goals first | omega | (simp [go_sem] <;> omega)))
 | false =>
  cases Bo with
  | true =>
   have HR : Hid (R = 5) := HW.out
   clear HW
   go_wp2_with (go_at_call 154; (with_reducible refine (Ret.flat (HDn.out _ (by (repeat with_reducible first | exact Below.refl _ _ | refine Below.drew ?_ | refine Below.drewN ?_ _ | refine Below.alloc ?_ ?_ _ | refine Below.grow ?_ ?_ _ | refine Below.setCell ?_ ?_ _); all_goals first | omega | (simp [go_sem] <;> omega)))).mono ?_); rintro e W5 ⟨rfl, X5, rfl⟩)
   go_ret
   exact Ret.of (by rw [HR.out]; rfl) (HB0.out _ (by (repeat with_reducible first | exact Below.refl _ _ | refine Below.drew ?_ | refine Below.drewN ?_ _ | refine Below.alloc ?_ ?_ _ | refine Below.grow ?_ ?_ _ | refine Below.setCell ?_ ?_ _); all_goals first | omega | (simp [go_sem] <;> omega)))
  | false =>
   cases Fo <;> cases At
   rotate_left
   all_goals try
    have HR : Hid (R = 4) := HW.out
    clear HW
    go_wp2_with (go_at_call 154; (with_reducible refine (Ret.flat (HDn.out _ (by (repeat with_reducible first | exact Below.refl _ _ | refine Below.drew ?_ | refine Below.drewN ?_ _ | refine Below.alloc ?_ ?_ _ | refine Below.grow ?_ ?_ _ | refine Below.setCell ?_ ?_ _); all_goals first | omega | (simp [go_sem] <;> omega)))).mono ?_); rintro e W5 ⟨rfl, X5, rfl⟩)
    go_ret
    exact Ret.of (by rw [HR.out]; rfl) (HB0.out _ (by (repeat with_reducible first | exact Below.refl _ _ | refine Below.drew ?_ | refine Below.drewN ?_ _ | refine Below.alloc ?_ ?_ _ | refine Below.grow ?_ ?_ _ | refine Below.setCell ?_ ?_ _); all_goals first | omega | (simp [go_sem] <;> omega)))
   cases Ov <;> cases Lo
   all_goals
    have HR := Lib.hid HW.out
    simp only [Bool.false_eq_true, if_false, Bool.or_false, Bool.or_true, if_true] at HR
    clear HW
    go_wp2_with (first
     | (go_at_call 154; (with_reducible refine (Ret.flat (HDn.out _ (by (repeat with_reducible first | exact Below.refl _ _ | refine Below.drew ?_ | refine Below.drewN ?_ _ | refine Below.alloc ?_ ?_ _ | refine Below.grow ?_ ?_ _ | refine Below.setCell ?_ ?_ _); all_goals first | omega | (simp [go_sem] <;> omega)))).mono ?_); rintro e W5 ⟨rfl, X5, rfl⟩)
     | (go_at_call 101; (with_reducible refine (Ret.flat (HLo.out _ (by (repeat with_reducible first | exact Below.refl _ _ | refine Below.drew ?_ | refine Below.drewN ?_ _ | refine Below.alloc ?_ ?_ _ | refine Below.grow ?_ ?_ _ | refine Below.setCell ?_ ?_ _); all_goals first | omega | (simp [go_sem] <;> omega)))).mono ?_); rintro e W6 ⟨rfl, X6, rfl⟩))
    go_ret
    exact Ret.of (by rw [HR.out]; rfl) (HB0.out _ (by (repeat with_reducible first | exact Below.refl _ _ | refine Below.drew ?_ | refine Below.drewN ?_ _ | refine Below.alloc ?_ ?_ _ | refine Below.grow ?_ ?_ _ | refine Below.setCell ?_ ?_ _); all_goals first | omega | (simp [go_sem] <;> omega)))
end Go.Proofs.YtbhhgbgfaemfdaaGreatDoor
namespace Go.Proofs.YtbhhgbgfaemfdaaGreatDoor
open Go.RowKit
attribute [local go_sem] Oper.semAt_some
structure RulesB (W : World) (g b base : Nat) (p : Pol) (l : List Frc) : Prop where
 g_lt : g < base
 base_le : base ≤ W.heap.size
 gb : g ≠ b
 c0 : ∃ k, W.cell? ⟨g, 0, none⟩ = some (.map (some k)) ∧ KeysM Tryz.prog 9 W k (p.tags.map sv) ∧ k < base ∧ k ≠ b
 c1 : ∃ k, W.cell? ⟨g, 1, none⟩ = some (.map (some k)) ∧ KeysM Tryz.prog 9 W k (p.schemes.map sv) ∧ k < base ∧ k ≠ b
 c2 : ∃ k, W.cell? ⟨g, 2, none⟩ = some (.map (some k)) ∧ KeysM Tryz.prog 9 W k (p.css.map sv) ∧ k < base ∧ k ≠ b
 c3 : ∃ k, W.cell? ⟨g, 3, none⟩ = some (.map (some k)) ∧ KeysM Tryz.prog 9 W k (p.drops.map sv) ∧ k < base ∧ k ≠ b
 c4 : ∃ k, W.cell? ⟨g, 4, none⟩ = some (.map (some k)) ∧ KeysM Tryz.prog 80 W k (p.attrs.map Alw.agg) ∧ k < base ∧ k ≠ b
 c5 : W.cell? ⟨g, 5, none⟩ = some (.map (some b))
 grp : GrpM Tryz.prog 9 110 2 Frc.tag atC W b base l
 c6 : W.cell? ⟨g, 6, none⟩ = some (.bool p.rel)
 c7 : W.cell? ⟨g, 7, none⟩ = some (.int .i64 p.depth)
 c8 : W.cell? ⟨g, 8, none⟩ = some (.int .i64 p.name)
 c9 : W.cell? ⟨g, 9, none⟩ = some (.int .i64 p.value)
theorem RulesB.rules {W : World} {g b base : Nat} {p : Pol} (h : RulesB W g b base p p.forces) : RulesV W g p := by
 obtain ⟨h1, h2, _, ⟨k0, x0, y0, _⟩, ⟨k1, x1, y1, _⟩, ⟨k2, x2, y2, _⟩, ⟨k3, x3, y3, _⟩, ⟨k4, x4, y4, _⟩, x5, y5, x6, x7, x8, x9⟩ := h
 exact ⟨Nat.lt_of_lt_of_le h1 h2, ⟨k0, x0, y0⟩, ⟨k1, x1, y1⟩, ⟨k2, x2, y2⟩, ⟨k3, x3, y3⟩, ⟨k4, x4, y4⟩, ⟨b, base, x5, y5⟩, x6, x7, x8, x9⟩
theorem RulesB.kept {W W' : World} {g b base : Nat} {p : Pol} {l l' : List Frc} (h : RulesB W g b base p l) (hs : W.heap.size ≤ W'.heap.size) (hk : ∀ k, k < base → k ≠ b → W'.heap[k]? = W.heap[k]?) (hg : GrpM Tryz.prog 9 110 2 Frc.tag atC W' b base l') : RulesB W' g b base p l' := by
 have hc : ∀ j, W'.cell? ⟨g, j, none⟩ = W.cell? ⟨g, j, none⟩ := fun j => World.cell?_of_block (hk g h.g_lt h.gb)
 obtain ⟨h1, h2, h3, ⟨k0, x0, y0, z0, n0⟩, ⟨k1, x1, y1, z1, n1⟩, ⟨k2, x2, y2, z2, n2⟩, ⟨k3, x3, y3, z3, n3⟩, ⟨k4, x4, y4, z4, n4⟩, x5, _, x6, x7, x8, x9⟩ := h
 exact ⟨h1, Nat.le_trans h2 hs, h3, ⟨k0, (hc _).trans x0, y0.kept (hk k0 z0 n0), z0, n0⟩, ⟨k1, (hc _).trans x1, y1.kept (hk k1 z1 n1), z1, n1⟩, ⟨k2, (hc _).trans x2, y2.kept (hk k2 z2 n2), z2, n2⟩, ⟨k3, (hc _).trans x3, y3.kept (hk k3 z3 n3), z3, n3⟩, ⟨k4, (hc _).trans x4, y4.kept (hk k4 z4 n4), z4, n4⟩, (hc _).trans x5, hg, (hc _).trans x6, (hc _).trans x7, (hc _).trans x8, (hc _).trans x9⟩
theorem RulesB.below {W W' : World} {g b base : Nat} {p : Pol} {l : List Frc} (h : RulesB W g b base p l) (hb : Below W.heap.size W W') : RulesB W' g b base p l :=
 h.kept hb.size (fun k hk _ => hb.block k (Nat.lt_of_lt_of_le hk h.base_le)) (h.grp.below hb)
theorem RulesB.step {W W1 W2 : World} {g b base : Nat} {p : Pol} {l l' : List Frc} {vb : Option Nat} (h : RulesB W g b base p l) (hg1 : W.grownBy W1 vb) (hvb : ∀ k, vb = some k → base ≤ k) (hg2 : W1.grownBy W2 (some b)) (hg : GrpM Tryz.prog 9 110 2 Frc.tag atC W2 b base l') : RulesB W2 g b base p l' := by
 refine h.kept (Nat.le_trans hg1.size hg2.size) (fun k hk hkb => ?_) hg
 have hkl : k < W.heap.size := Nat.lt_of_lt_of_le hk h.base_le
 exact (hg2.block k (Nat.lt_of_lt_of_le hkl hg1.size) (fun e => hkb (Option.some.inj e))).trans (hg1.block k hkl (fun e => by have := hvb k e.symm; omega))
theorem below_two {B base b : Nat} {a W W1 W2 : World} {vb : Option Nat} (h : Below B a W) (hB : B ≤ W.heap.size) (hb : B ≤ b) (hbase : B ≤ base) (hg1 : W.grownBy W1 vb) (hvb : ∀ k, vb = some k → base ≤ k) (hg2 : W1.grownBy W2 (some b)) : Below B a W2 :=
 h.trans ⟨hg2.os.trans hg1.os, hg2.tape.trans hg1.tape, hg2.output.trans hg1.output, Nat.le_trans hg1.size hg2.size, fun j hj => (hg2.block j (Nat.lt_of_lt_of_le (Nat.lt_of_lt_of_le hj hB) hg1.size) (fun e => by have := Option.some.inj e; omega)).trans (hg1.block j (Nat.lt_of_lt_of_le hj hB) (fun e => by have := hvb j e.symm; omega))⟩
theorem sltT : SlT Tryz.prog 108 110 (.agg #[.string ⟨#[]⟩, .string ⟨#[]⟩]) 2 32 := ⟨by kernel_rfl, by kernel_rfl, by kernel_rfl, by decide⟩
theorem wordB_len {t : Bs} (h : wordB t = true) : t.length ≤ 64 := by
 cases t with
 | nil => exact Nat.zero_le _
 | cons c r =>
  unfold wordB at h
  simp only [Bool.and_eq_true, decide_eq_true_eq] at h
  simp only [List.length_cons]; omega
theorem right_wd {p : Pol} (h : rightP p = true) : PolWd p := by
 unfold rightP at h
 simp only [Bool.and_eq_true, List.all_eq_true, decide_eq_true_eq] at h
 obtain ⟨⟨⟨⟨⟨⟨⟨⟨h0, h1⟩, h2⟩, h3⟩, h4⟩, h5⟩, _⟩, _⟩, _⟩ := h
 refine ⟨fun t ht => wordB_len (h0 t ht), fun t ht => wordB_len (h1 t ht), fun t ht => wordB_len (h2 t ht), fun t ht => wordB_len (h3 t ht), fun a ha => ?_, fun f hf => ?_⟩
 ·have := h4 a ha
  unfold alwB at this
  simp only [Bool.and_eq_true, Bool.or_eq_true, decide_eq_true_eq] at this
  refine ⟨?_, wordB_len this.2⟩
  rcases this.1 with h9 | h9
  ·rw [h9]; decide
  ·exact wordB_len h9
 ·have := h5 f hf
  unfold frcB at this
  simp only [Bool.and_eq_true] at this
  exact ⟨wordB_len this.1.2, wordB_len this.2⟩
theorem right_few {p : Pol} (h : rightP p = true) : p.forces.length ≤ 200 := by
 unfold rightP fitB at h
 simp only [Bool.and_eq_true, decide_eq_true_eq] at h
 exact h.1.2.2.2.2.2.2
def NewP (p : Pol) (w : World) (e : Ending) (w' : World) : Prop := Below w.heap.size w w' ∧ ((newR p ≠ 0 ∧ e = .returned (.tuple #[.pointer none, .int .i64 (newR p : Nat)])) ∨ (newR p = 0 ∧ ∃ g, e = .returned (.tuple #[.pointer (some ⟨g, 0, none⟩), .int .i64 0]) ∧ w.heap.size ≤ g ∧ RulesV w' g p))
end Go.Proofs.YtbhhgbgfaemfdaaGreatDoor
namespace Go.Proofs.YtbhhgbgfaemfdaaGreatDoor
open Go.RowKit
attribute [local go_sem] Oper.semAt_some
def prC (x : Bs × Bs) : List Value := [sv x.1, sv x.2]
theorem cells_oneT (d : List (Bs × Bs)) : ∀ u ∈ d.flatMap prC, u.oneCell' = true := by
 intro u hu
 obtain ⟨x, _, hx⟩ := List.mem_flatMap.1 hu
 simp only [prC, List.mem_cons, List.not_mem_nil, or_false] at hx
 rcases hx with rfl | rfl <;> rfl
theorem forced_cells (p : Pol) (t : Bs) : (grpL Frc.tag p.forces t).flatMap atC = (forcedR p t).flatMap prC ∧ (grpL Frc.tag p.forces t).length = (forcedR p t).length := by
 have e : forcedR p t = (grpL Frc.tag p.forces t).map fun f => (f.name, f.value) := rfl
 rw [e]
 refine ⟨?_, by rw [List.length_map]⟩
 generalize grpL Frc.tag p.forces t = l
 induction l with
 | nil => rfl
 | cons x r ih => rw [List.map_cons, List.flatMap_cons, List.flatMap_cons, ih]; rfl
def RetF (w : World) (l : List (Bs × Bs)) (e : Ending) (w' : World) : Prop := ∃ A c, e = .returned (.slice A l.length c) ∧ Below w.heap.size w w' ∧ Rd w' (.slice A l.length c) l.length 2 (l.flatMap prC)
end Go.Proofs.YtbhhgbgfaemfdaaGreatDoor

