/- The walks of what is asked of lists, words, and rules. -/
import Derived.Test.YtbhhgbgfaemfdaaGreatDoorC1
import Derived.Test.YtbhhgbgfaemfdaaGreatDoorShelf
namespace Go.Proofs.YtbhhgbgfaemfdaaGreatDoor
open Go.RowKit
attribute [local go_sem] Oper.semAt_some
def PredL {α : Type} (g : Nat) (fs lb : Array Value) (enc : α → Value) (p : α → Bool) (l : List α) (w : World) : Prop := (∀ args w, (callFunc g args).run Tryz.prog w = .ok (.enter g args) w) ∧ ∀ t ∈ l, ∀ W, Below w.heap.size w W → Calls Tryz.prog g (fs.push (enc t) ++ lb) W (Ret (.bool (p t)) W)
theorem PredL.later {α : Type} {g : Nat} {fs lb : Array Value} {enc : α → Value} {p : α → Bool} {l : List α} {w W : World} (h : PredL g fs lb enc p l w) (hb : Below w.heap.size w W) : PredL g fs lb enc p l W :=
 ⟨h.1, fun t ht W' hb' => h.2 t ht W' (hb.trans (hb'.mono hb.size))⟩
set_option maxRecDepth 100000 in
set_option maxHeartbeats 1600000 in
theorem fnIdxS_any (v : Value) (l : List Bs) (g : Nat) (fs lb : Array Value) (p : Bs → Bool) (w : World) (h : Rd w v l.length 1 (l.map sv)) (hp : PredL g fs lb sv p l w) :
  Calls Tryz.prog 164 #[v, .func (.func g) fs lb] w fun e w' => ∃ i : Int, e = .returned (.int .i64 i) ∧ decide (0 ≤ i) = l.any p ∧ Below w.heap.size w w' := by
 obtain ⟨eg, hp⟩ := hp
 have hp := Lib.hid hp
 obtain ⟨_, hm, A, c, rfl, h4⟩ := h
 obtain ⟨n, hn⟩ : ∃ n, l.length = n := ⟨_, rfl⟩
 have HN := Lib.hid hn
 rw [hn] at hm h4 ⊢
 clear hn
 have H4 := Lib.hid h4
 clear h4
 go_enter Tryz.func164, Tryz.ntmps164
 go_wp2_with fail
 go_loopw [8] (fun i wr => ∃ k : Nat, k ≤ n ∧ i = .int .i64 (k : Nat) ∧ Hid (l.any p = (l.drop k).any p) ∧ Hid (Below w.heap.size w wr)) (fun i _ => n - (intOf i).toNat)
 case atStart => exact ⟨0, by omega, rfl, by show _ = _; rw [List.drop_zero], by show Below _ _ _; exact (by (repeat with_reducible first | exact Below.refl _ _ | refine Below.drew ?_ | refine Below.drewN ?_ _ | refine Below.alloc ?_ ?_ _ | refine Below.grow ?_ ?_ _ | refine Below.setCell ?_ ?_ _); all_goals first | omega | (simp [go_sem] <;> omega))⟩
 case round =>
  obtain ⟨k, hk, rfl, HK, HB⟩ := hrel
  by_cases hlt : k < n
  ·obtain ⟨b, off, rfl, hb, hc⟩ := H4.out (by omega)
   have hkl : k < l.length := by rw [HN.out]; exact hlt
   obtain ⟨x, hx⟩ : ∃ x, l[k] = x := ⟨_, rfl⟩
   have x0 : wr.cell? ⟨b, off + k, none⟩ = some (sv x) := (HB.out.cell (p := ⟨b, off + k, none⟩) hb).trans (hc k (sv x) (by simp [hkl, hx]))
   have hbr : b < wr.heap.size := Nat.lt_of_lt_of_le hb HB.out.size
   have HD : Hid (l.drop k = x :: l.drop (k + 1)) := by show _ = _; rw [List.drop_eq_getElem_cons hkl, hx]
   have HP := Lib.hid (hp.out x (hx ▸ List.getElem_mem hkl))
   clear hc hx hkl
   obtain ⟨px, hpx⟩ : ∃ px, p x = px := ⟨_, rfl⟩
   rw [hpx] at HP
   have HPx := Lib.hid hpx
   clear hpx
   have HP2 := Lib.hid (fun W hb => show Calls Tryz.prog g (fs.push (.string ⟨x.toArray⟩) ++ lb) W _ from HP.out W hb)
   rw [show sv x = .string ⟨x.toArray⟩ from rfl] at x0
   clear HP
   generalize (⟨x.toArray⟩ : ByteArray) = ts at *
   have hwr := HB.out.size
   cases px with
   | false =>
    have HT : Hid (l.any p = (l.drop (k + 1)).any p) := by
     show _ = _
     rw [HK.out, HD.out, List.any_cons, HPx.out, Bool.false_or]
    clear HK HD
    go_wp2_with ((with_reducible refine (HP2.out _ HB.out).mono ?_); rintro e w' ⟨rfl, X, rfl⟩)
    go_roundw
    case rel => exact ⟨k + 1, by omega, by go_num, HT.out, by show Below _ _ _; exact HB.out.trans (((by (repeat with_reducible first | exact Below.refl _ _ | refine Below.drew ?_ | refine Below.drewN ?_ _ | refine Below.alloc ?_ ?_ _ | refine Below.grow ?_ ?_ _ | refine Below.setCell ?_ ?_ _); all_goals first | omega | (simp [go_sem] <;> omega)) : Below wr.heap.size wr (wr.grow X)).mono HB.out.size)⟩
    case measure => simp [intOf]; omega
   | true =>
    have HT : Hid (l.any p = true) := by
     show _ = _
     rw [HK.out, HD.out, List.any_cons, HPx.out, Bool.true_or]
    clear HK HD
    go_wp2_with ((with_reducible refine (HP2.out _ HB.out).mono ?_); rintro e w' ⟨rfl, X, rfl⟩)
    go_ret
    exact ⟨k, rfl, by rw [HT.out]; simp, HB.out.trans (((by (repeat with_reducible first | exact Below.refl _ _ | refine Below.drew ?_ | refine Below.drewN ?_ _ | refine Below.alloc ?_ ?_ _ | refine Below.grow ?_ ?_ _ | refine Below.setCell ?_ ?_ _); all_goals first | omega | (simp [go_sem] <;> omega)) : Below wr.heap.size wr (wr.grow X)).mono HB.out.size)⟩
  ·have HT : Hid (l.any p = false) := by
    show _ = _
    rw [HK.out, List.drop_eq_nil_of_le (by rw [HN.out]; omega)]; rfl
   go_wp2_with fail
   go_ret
   exact ⟨-1, rfl, by rw [HT.out]; rfl, HB.out⟩
theorem hasS_fn (v : Value) (l : List Bs) (g : Nat) (fs lb : Array Value) (p : Bs → Bool) (w : World) (h : Rd w v l.length 1 (l.map sv)) (hp : PredL g fs lb sv p l w) :
  Calls Tryz.prog 101 #[v, .func (.func g) fs lb] w (Ret (.bool (l.any p)) w) := by
 have HI := Lib.hid (fnIdxS_any v l g fs lb p w h hp)
 clear h hp
 go_enter Tryz.func101, Tryz.ntmps101
 go_wp2_with (go_at_call 164; (with_reducible refine HI.out.mono ?_); rintro e w' ⟨i, rfl, hi, hb⟩; have HB := Lib.hid hb; have HI2 := Lib.hid hi; clear hb hi)
 go_ret
 exact Ret.of (by rw [← HI2.out]; simp) HB.out
set_option maxRecDepth 100000 in
set_option maxHeartbeats 1600000 in
theorem fnIdxA_any (v : Value) (l : List Alw) (g : Nat) (fs lb : Array Value) (p : Alw → Bool) (w : World) (h : Rd w v l.length 2 (l.flatMap Alw.cells)) (hp : PredL g fs lb Alw.agg p l w) :
  Calls Tryz.prog 188 #[v, .func (.func g) fs lb] w fun e w' => ∃ i : Int, e = .returned (.int .i64 i) ∧ decide (0 ≤ i) = l.any p ∧ Below w.heap.size w w' := by
 obtain ⟨eg, hp⟩ := hp
 have hp := Lib.hid hp
 obtain ⟨_, hm, A, c, rfl, h4⟩ := h
 obtain ⟨n, hn⟩ : ∃ n, l.length = n := ⟨_, rfl⟩
 have HN := Lib.hid hn
 rw [hn] at hm h4 ⊢
 clear hn
 have H4 := Lib.hid h4
 clear h4
 go_enter Tryz.func188, Tryz.ntmps188
 go_wp2_with fail
 go_loopw [8] (fun i wr => ∃ k : Nat, k ≤ n ∧ i = .int .i64 (k : Nat) ∧ Hid (l.any p = (l.drop k).any p) ∧ Hid (Below w.heap.size w wr)) (fun i _ => n - (intOf i).toNat)
 case atStart => exact ⟨0, by omega, rfl, by show _ = _; rw [List.drop_zero], by show Below _ _ _; exact (by (repeat with_reducible first | exact Below.refl _ _ | refine Below.drew ?_ | refine Below.drewN ?_ _ | refine Below.alloc ?_ ?_ _ | refine Below.grow ?_ ?_ _ | refine Below.setCell ?_ ?_ _); all_goals first | omega | (simp [go_sem] <;> omega))⟩
 case round =>
  obtain ⟨k, hk, rfl, HK, HB⟩ := hrel
  by_cases hlt : k < n
  ·obtain ⟨b, off, rfl, hb, hc⟩ := H4.out (by omega)
   have hkl : k < l.length := by rw [HN.out]; exact hlt
   obtain ⟨x, hx⟩ : ∃ x, l[k] = x := ⟨_, rfl⟩
   have x0 : wr.cell? ⟨b, off + k * 2, none⟩ = some (.string ⟨x.tag.toArray⟩) := (HB.out.cell (p := ⟨b, off + k * 2, none⟩) hb).trans (hc (k * 2 + 0) (sv x.tag) (by rw [flat_atC Alw.cells 2 (fun _ => rfl) l k 0 hkl (by omega), hx]; rfl))
   have x1 : wr.cell? ⟨b, off + k * 2 + 1, none⟩ = some (.string ⟨x.name.toArray⟩) := (HB.out.cell (p := ⟨b, off + k * 2 + 1, none⟩) hb).trans ((congrArg (fun i => w.cell? ⟨b, i, none⟩) (by omega)).trans (hc (k * 2 + 1) (sv x.name) (by rw [flat_atC Alw.cells 2 (fun _ => rfl) l k 1 hkl (by omega), hx]; rfl)))
   have hbr : b < wr.heap.size := Nat.lt_of_lt_of_le hb HB.out.size
   have HD : Hid (l.drop k = x :: l.drop (k + 1)) := by show _ = _; rw [List.drop_eq_getElem_cons hkl, hx]
   have HP := Lib.hid (hp.out x (hx ▸ List.getElem_mem hkl))
   clear hc hx hkl
   obtain ⟨px, hpx⟩ : ∃ px, p x = px := ⟨_, rfl⟩
   rw [hpx] at HP
   have HPx := Lib.hid hpx
   clear hpx
   have HP2 := Lib.hid (fun W hb => show Calls Tryz.prog g (fs.push (.agg #[.string ⟨x.tag.toArray⟩, .string ⟨x.name.toArray⟩]) ++ lb) W _ from HP.out W hb)
   clear HP
   generalize (⟨x.tag.toArray⟩ : ByteArray) = a0 at *
   generalize (⟨x.name.toArray⟩ : ByteArray) = a1 at *
   have hwr := HB.out.size
   cases px with
   | false =>
    have HT : Hid (l.any p = (l.drop (k + 1)).any p) := by
     show _ = _
     rw [HK.out, HD.out, List.any_cons, HPx.out, Bool.false_or]
    clear HK HD
    go_wp2_with ((with_reducible refine (HP2.out _ HB.out).mono ?_); rintro e w' ⟨rfl, X, rfl⟩)
    go_roundw
    case rel => exact ⟨k + 1, by omega, by go_num, HT.out, by show Below _ _ _; exact HB.out.trans (((by (repeat with_reducible first | exact Below.refl _ _ | refine Below.drew ?_ | refine Below.drewN ?_ _ | refine Below.alloc ?_ ?_ _ | refine Below.grow ?_ ?_ _ | refine Below.setCell ?_ ?_ _); all_goals first | omega | (simp [go_sem] <;> omega)) : Below wr.heap.size wr (wr.grow X)).mono HB.out.size)⟩
    case measure => simp [intOf]; omega
   | true =>
    have HT : Hid (l.any p = true) := by
     show _ = _
     rw [HK.out, HD.out, List.any_cons, HPx.out, Bool.true_or]
    clear HK HD
    go_wp2_with ((with_reducible refine (HP2.out _ HB.out).mono ?_); rintro e w' ⟨rfl, X, rfl⟩)
    go_ret
    exact ⟨k, rfl, by rw [HT.out]; simp, HB.out.trans (((by (repeat with_reducible first | exact Below.refl _ _ | refine Below.drew ?_ | refine Below.drewN ?_ _ | refine Below.alloc ?_ ?_ _ | refine Below.grow ?_ ?_ _ | refine Below.setCell ?_ ?_ _); all_goals first | omega | (simp [go_sem] <;> omega)) : Below wr.heap.size wr (wr.grow X)).mono HB.out.size)⟩
  ·have HT : Hid (l.any p = false) := by
    show _ = _
    rw [HK.out, List.drop_eq_nil_of_le (by rw [HN.out]; omega)]; rfl
   go_wp2_with fail
   go_ret
   exact ⟨-1, rfl, by rw [HT.out]; rfl, HB.out⟩
theorem hasA_fn (v : Value) (l : List Alw) (g : Nat) (fs lb : Array Value) (p : Alw → Bool) (w : World) (h : Rd w v l.length 2 (l.flatMap Alw.cells)) (hp : PredL g fs lb Alw.agg p l w) :
  Calls Tryz.prog 151 #[v, .func (.func g) fs lb] w (Ret (.bool (l.any p)) w) := by
 have HI := Lib.hid (fnIdxA_any v l g fs lb p w h hp)
 clear h hp
 go_enter Tryz.func151, Tryz.ntmps151
 go_wp2_with (go_at_call 188; (with_reducible refine HI.out.mono ?_); rintro e w' ⟨i, rfl, hi, hb⟩; have HB := Lib.hid hb; have HI2 := Lib.hid hi; clear hb hi)
 go_ret
 exact Ret.of (by rw [← HI2.out]; simp) HB.out
set_option maxRecDepth 100000 in
set_option maxHeartbeats 1600000 in
theorem fnIdxF_any (v : Value) (l : List Frc) (g : Nat) (fs lb : Array Value) (p : Frc → Bool) (w : World) (h : Rd w v l.length 3 (l.flatMap Frc.cells)) (hp : PredL g fs lb Frc.agg p l w) :
  Calls Tryz.prog 187 #[v, .func (.func g) fs lb] w fun e w' => ∃ i : Int, e = .returned (.int .i64 i) ∧ decide (0 ≤ i) = l.any p ∧ Below w.heap.size w w' := by
 obtain ⟨eg, hp⟩ := hp
 have hp := Lib.hid hp
 obtain ⟨_, hm, A, c, rfl, h4⟩ := h
 obtain ⟨n, hn⟩ : ∃ n, l.length = n := ⟨_, rfl⟩
 have HN := Lib.hid hn
 rw [hn] at hm h4 ⊢
 clear hn
 have H4 := Lib.hid h4
 clear h4
 go_enter Tryz.func187, Tryz.ntmps187
 go_wp2_with fail
 go_loopw [8] (fun i wr => ∃ k : Nat, k ≤ n ∧ i = .int .i64 (k : Nat) ∧ Hid (l.any p = (l.drop k).any p) ∧ Hid (Below w.heap.size w wr)) (fun i _ => n - (intOf i).toNat)
 case atStart => exact ⟨0, by omega, rfl, by show _ = _; rw [List.drop_zero], by show Below _ _ _; exact (by (repeat with_reducible first | exact Below.refl _ _ | refine Below.drew ?_ | refine Below.drewN ?_ _ | refine Below.alloc ?_ ?_ _ | refine Below.grow ?_ ?_ _ | refine Below.setCell ?_ ?_ _); all_goals first | omega | (simp [go_sem] <;> omega))⟩
 case round =>
  obtain ⟨k, hk, rfl, HK, HB⟩ := hrel
  by_cases hlt : k < n
  ·obtain ⟨b, off, rfl, hb, hc⟩ := H4.out (by omega)
   have hkl : k < l.length := by rw [HN.out]; exact hlt
   obtain ⟨x, hx⟩ : ∃ x, l[k] = x := ⟨_, rfl⟩
   have x0 : wr.cell? ⟨b, off + k * 3, none⟩ = some (.string ⟨x.tag.toArray⟩) := (HB.out.cell (p := ⟨b, off + k * 3, none⟩) hb).trans (hc (k * 3 + 0) (sv x.tag) (by rw [flat_atC Frc.cells 3 (fun _ => rfl) l k 0 hkl (by omega), hx]; rfl))
   have x1 : wr.cell? ⟨b, off + k * 3 + 1, none⟩ = some (.string ⟨x.name.toArray⟩) := (HB.out.cell (p := ⟨b, off + k * 3 + 1, none⟩) hb).trans ((congrArg (fun i => w.cell? ⟨b, i, none⟩) (by omega)).trans (hc (k * 3 + 1) (sv x.name) (by rw [flat_atC Frc.cells 3 (fun _ => rfl) l k 1 hkl (by omega), hx]; rfl)))
   have x2 : wr.cell? ⟨b, off + k * 3 + 2, none⟩ = some (.string ⟨x.value.toArray⟩) := (HB.out.cell (p := ⟨b, off + k * 3 + 2, none⟩) hb).trans ((congrArg (fun i => w.cell? ⟨b, i, none⟩) (by omega)).trans (hc (k * 3 + 2) (sv x.value) (by rw [flat_atC Frc.cells 3 (fun _ => rfl) l k 2 hkl (by omega), hx]; rfl)))
   have hbr : b < wr.heap.size := Nat.lt_of_lt_of_le hb HB.out.size
   have HD : Hid (l.drop k = x :: l.drop (k + 1)) := by show _ = _; rw [List.drop_eq_getElem_cons hkl, hx]
   have HP := Lib.hid (hp.out x (hx ▸ List.getElem_mem hkl))
   clear hc hx hkl
   obtain ⟨px, hpx⟩ : ∃ px, p x = px := ⟨_, rfl⟩
   rw [hpx] at HP
   have HPx := Lib.hid hpx
   clear hpx
   have HP2 := Lib.hid (fun W hb => show Calls Tryz.prog g (fs.push (.agg #[.string ⟨x.tag.toArray⟩, .string ⟨x.name.toArray⟩, .string ⟨x.value.toArray⟩]) ++ lb) W _ from HP.out W hb)
   clear HP
   generalize (⟨x.tag.toArray⟩ : ByteArray) = a0 at *
   generalize (⟨x.name.toArray⟩ : ByteArray) = a1 at *
   generalize (⟨x.value.toArray⟩ : ByteArray) = a2 at *
   have hwr := HB.out.size
   cases px with
   | false =>
    have HT : Hid (l.any p = (l.drop (k + 1)).any p) := by
     show _ = _
     rw [HK.out, HD.out, List.any_cons, HPx.out, Bool.false_or]
    clear HK HD
    go_wp2_with ((with_reducible refine (HP2.out _ HB.out).mono ?_); rintro e w' ⟨rfl, X, rfl⟩)
    go_roundw
    case rel => exact ⟨k + 1, by omega, by go_num, HT.out, by show Below _ _ _; exact HB.out.trans (((by (repeat with_reducible first | exact Below.refl _ _ | refine Below.drew ?_ | refine Below.drewN ?_ _ | refine Below.alloc ?_ ?_ _ | refine Below.grow ?_ ?_ _ | refine Below.setCell ?_ ?_ _); all_goals first | omega | (simp [go_sem] <;> omega)) : Below wr.heap.size wr (wr.grow X)).mono HB.out.size)⟩
    case measure => simp [intOf]; omega
   | true =>
    have HT : Hid (l.any p = true) := by
     show _ = _
     rw [HK.out, HD.out, List.any_cons, HPx.out, Bool.true_or]
    clear HK HD
    go_wp2_with ((with_reducible refine (HP2.out _ HB.out).mono ?_); rintro e w' ⟨rfl, X, rfl⟩)
    go_ret
    exact ⟨k, rfl, by rw [HT.out]; simp, HB.out.trans (((by (repeat with_reducible first | exact Below.refl _ _ | refine Below.drew ?_ | refine Below.drewN ?_ _ | refine Below.alloc ?_ ?_ _ | refine Below.grow ?_ ?_ _ | refine Below.setCell ?_ ?_ _); all_goals first | omega | (simp [go_sem] <;> omega)) : Below wr.heap.size wr (wr.grow X)).mono HB.out.size)⟩
  ·have HT : Hid (l.any p = false) := by
    show _ = _
    rw [HK.out, List.drop_eq_nil_of_le (by rw [HN.out]; omega)]; rfl
   go_wp2_with fail
   go_ret
   exact ⟨-1, rfl, by rw [HT.out]; rfl, HB.out⟩
theorem hasF_fn (v : Value) (l : List Frc) (g : Nat) (fs lb : Array Value) (p : Frc → Bool) (w : World) (h : Rd w v l.length 3 (l.flatMap Frc.cells)) (hp : PredL g fs lb Frc.agg p l w) :
  Calls Tryz.prog 149 #[v, .func (.func g) fs lb] w (Ret (.bool (l.any p)) w) := by
 have HI := Lib.hid (fnIdxF_any v l g fs lb p w h hp)
 clear h hp
 go_enter Tryz.func149, Tryz.ntmps149
 go_wp2_with (go_at_call 187; (with_reducible refine HI.out.mono ?_); rintro e w' ⟨i, rfl, hi, hb⟩; have HB := Lib.hid hb; have HI2 := Lib.hid hi; clear hb hi)
 go_ret
 exact Ret.of (by rw [← HI2.out]; simp) HB.out
end Go.Proofs.YtbhhgbgfaemfdaaGreatDoor
namespace Go.Proofs.YtbhhgbgfaemfdaaGreatDoor
open Go.RowKit
attribute [local go_sem] Oper.semAt_some
theorem ba_bqD (x : ByteArray) (c : Bs) : (x.toList == c) = decide (x.data.toList = c) := by rw [ByteArray.toList_eq, Bool.eq_iff_iff]; simp
theorem deniedL_eq : deniedL = [[115, 99, 114, 105, 112, 116], [115, 116, 121, 108, 101], [120, 109, 112], [105, 102, 114, 97, 109, 101], [110, 111, 101, 109, 98, 101, 100], [110, 111, 102, 114, 97, 109, 101, 115], [110, 111, 115, 99, 114, 105, 112, 116], [112, 108, 97, 105, 110, 116, 101, 120, 116], [115, 118, 103], [109, 97, 116, 104], [116, 101, 109, 112, 108, 97, 116, 101], [116, 101, 120, 116, 97, 114, 101, 97], [116, 105, 116, 108, 101], [102, 114, 97, 109, 101, 115, 101, 116], [102, 114, 97, 109, 101], [111, 98, 106, 101, 99, 116], [101, 109, 98, 101, 100], [98, 97, 115, 101]] := by kernel_rfl
set_option maxRecDepth 100000 in
set_option maxHeartbeats 1600000 in
theorem denied_any (t : Bs) (w : World) : Calls Tryz.prog 192 #[sv t] w (Ret (.bool (deniedB t)) w) := by
 unfold deniedB
 rw [deniedL_eq]
 unfold sv
 by_cases hm : t ∈ [[115, 99, 114, 105, 112, 116], [115, 116, 121, 108, 101], [120, 109, 112], [105, 102, 114, 97, 109, 101], [110, 111, 101, 109, 98, 101, 100], [110, 111, 102, 114, 97, 109, 101, 115], [110, 111, 115, 99, 114, 105, 112, 116], [112, 108, 97, 105, 110, 116, 101, 120, 116], [115, 118, 103], [109, 97, 116, 104], [116, 101, 109, 112, 108, 97, 116, 101], [116, 101, 120, 116, 97, 114, 101, 97], [116, 105, 116, 108, 101], [102, 114, 97, 109, 101, 115, 101, 116], [102, 114, 97, 109, 101], [111, 98, 106, 101, 99, 116], [101, 109, 98, 101, 100], [98, 97, 115, 101]]
 ·rw [decide_eq_true hm]
  simp only [List.mem_cons, List.not_mem_nil, or_false] at hm
  rcases hm with rfl | rfl | rfl | rfl | rfl | rfl | rfl | rfl | rfl | rfl | rfl | rfl | rfl | rfl | rfl | rfl | rfl | rfl
  all_goals
   go_enter Tryz.func192, Tryz.ntmps192
   go_wp2_with fail
   go_ret
   exact Ret.of rfl (by (repeat with_reducible first | exact Below.refl _ _ | refine Below.drew ?_ | refine Below.drewN ?_ _ | refine Below.alloc ?_ ?_ _ | refine Below.grow ?_ ?_ _ | refine Below.setCell ?_ ?_ _); all_goals first | omega | (simp [go_sem] <;> omega))
 ·rw [decide_eq_false hm]
  simp only [List.mem_cons, List.not_mem_nil, or_false, not_or] at hm
  obtain ⟨n0, n1, n2, n3, n4, n5, n6, n7, n8, n9, n10, n11, n12, n13, n14, n15, n16, n17⟩ := hm
  have m0 : ((⟨t.toArray⟩ : ByteArray).toList == [115, 99, 114, 105, 112, 116]) = false := by rw [ba_bqD]; exact decide_eq_false n0
  have m1 : ((⟨t.toArray⟩ : ByteArray).toList == [115, 116, 121, 108, 101]) = false := by rw [ba_bqD]; exact decide_eq_false n1
  have m2 : ((⟨t.toArray⟩ : ByteArray).toList == [120, 109, 112]) = false := by rw [ba_bqD]; exact decide_eq_false n2
  have m3 : ((⟨t.toArray⟩ : ByteArray).toList == [105, 102, 114, 97, 109, 101]) = false := by rw [ba_bqD]; exact decide_eq_false n3
  have m4 : ((⟨t.toArray⟩ : ByteArray).toList == [110, 111, 101, 109, 98, 101, 100]) = false := by rw [ba_bqD]; exact decide_eq_false n4
  have m5 : ((⟨t.toArray⟩ : ByteArray).toList == [110, 111, 102, 114, 97, 109, 101, 115]) = false := by rw [ba_bqD]; exact decide_eq_false n5
  have m6 : ((⟨t.toArray⟩ : ByteArray).toList == [110, 111, 115, 99, 114, 105, 112, 116]) = false := by rw [ba_bqD]; exact decide_eq_false n6
  have m7 : ((⟨t.toArray⟩ : ByteArray).toList == [112, 108, 97, 105, 110, 116, 101, 120, 116]) = false := by rw [ba_bqD]; exact decide_eq_false n7
  have m8 : ((⟨t.toArray⟩ : ByteArray).toList == [115, 118, 103]) = false := by rw [ba_bqD]; exact decide_eq_false n8
  have m9 : ((⟨t.toArray⟩ : ByteArray).toList == [109, 97, 116, 104]) = false := by rw [ba_bqD]; exact decide_eq_false n9
  have m10 : ((⟨t.toArray⟩ : ByteArray).toList == [116, 101, 109, 112, 108, 97, 116, 101]) = false := by rw [ba_bqD]; exact decide_eq_false n10
  have m11 : ((⟨t.toArray⟩ : ByteArray).toList == [116, 101, 120, 116, 97, 114, 101, 97]) = false := by rw [ba_bqD]; exact decide_eq_false n11
  have m12 : ((⟨t.toArray⟩ : ByteArray).toList == [116, 105, 116, 108, 101]) = false := by rw [ba_bqD]; exact decide_eq_false n12
  have m13 : ((⟨t.toArray⟩ : ByteArray).toList == [102, 114, 97, 109, 101, 115, 101, 116]) = false := by rw [ba_bqD]; exact decide_eq_false n13
  have m14 : ((⟨t.toArray⟩ : ByteArray).toList == [102, 114, 97, 109, 101]) = false := by rw [ba_bqD]; exact decide_eq_false n14
  have m15 : ((⟨t.toArray⟩ : ByteArray).toList == [111, 98, 106, 101, 99, 116]) = false := by rw [ba_bqD]; exact decide_eq_false n15
  have m16 : ((⟨t.toArray⟩ : ByteArray).toList == [101, 109, 98, 101, 100]) = false := by rw [ba_bqD]; exact decide_eq_false n16
  have m17 : ((⟨t.toArray⟩ : ByteArray).toList == [98, 97, 115, 101]) = false := by rw [ba_bqD]; exact decide_eq_false n17
  clear n0 n1 n2 n3 n4 n5 n6 n7 n8 n9 n10 n11 n12 n13 n14 n15 n16 n17
  generalize (⟨t.toArray⟩ : ByteArray) = x at *
  go_enter Tryz.func192, Tryz.ntmps192
  go_wp2_with fail
  go_ret
  exact Ret.of rfl (by (repeat with_reducible first | exact Below.refl _ _ | refine Below.drew ?_ | refine Below.drewN ?_ _ | refine Below.alloc ?_ ?_ _ | refine Below.grow ?_ ?_ _ | refine Below.setCell ?_ ?_ _); all_goals first | omega | (simp [go_sem] <;> omega))
theorem runsL_eq : runsL = [[106, 97, 118, 97, 115, 99, 114, 105, 112, 116], [118, 98, 115, 99, 114, 105, 112, 116], [100, 97, 116, 97]] := by kernel_rfl
set_option maxRecDepth 100000 in
set_option maxHeartbeats 1600000 in
theorem runs_any (t : Bs) (w : World) : Calls Tryz.prog 193 #[sv t] w (Ret (.bool (runsB t)) w) := by
 unfold runsB
 rw [runsL_eq]
 unfold sv
 by_cases hm : t ∈ [[106, 97, 118, 97, 115, 99, 114, 105, 112, 116], [118, 98, 115, 99, 114, 105, 112, 116], [100, 97, 116, 97]]
 ·rw [decide_eq_true hm]
  simp only [List.mem_cons, List.not_mem_nil, or_false] at hm
  rcases hm with rfl | rfl | rfl
  all_goals
   go_enter Tryz.func193, Tryz.ntmps193
   go_wp2_with fail
   go_ret
   exact Ret.of rfl (by (repeat with_reducible first | exact Below.refl _ _ | refine Below.drew ?_ | refine Below.drewN ?_ _ | refine Below.alloc ?_ ?_ _ | refine Below.grow ?_ ?_ _ | refine Below.setCell ?_ ?_ _); all_goals first | omega | (simp [go_sem] <;> omega))
 ·rw [decide_eq_false hm]
  simp only [List.mem_cons, List.not_mem_nil, or_false, not_or] at hm
  obtain ⟨n0, n1, n2⟩ := hm
  have m0 : ((⟨t.toArray⟩ : ByteArray).toList == [106, 97, 118, 97, 115, 99, 114, 105, 112, 116]) = false := by rw [ba_bqD]; exact decide_eq_false n0
  have m1 : ((⟨t.toArray⟩ : ByteArray).toList == [118, 98, 115, 99, 114, 105, 112, 116]) = false := by rw [ba_bqD]; exact decide_eq_false n1
  have m2 : ((⟨t.toArray⟩ : ByteArray).toList == [100, 97, 116, 97]) = false := by rw [ba_bqD]; exact decide_eq_false n2
  clear n0 n1 n2
  generalize (⟨t.toArray⟩ : ByteArray) = x at *
  go_enter Tryz.func193, Tryz.ntmps193
  go_wp2_with fail
  go_ret
  exact Ret.of rfl (by (repeat with_reducible first | exact Below.refl _ _ | refine Below.drew ?_ | refine Below.drewN ?_ _ | refine Below.alloc ?_ ?_ _ | refine Below.grow ?_ ?_ _ | refine Below.setCell ?_ ?_ _); all_goals first | omega | (simp [go_sem] <;> omega))
theorem on_prefix (t : Bs) : Lib.hasPrefix t [111, 110] = onB t := by
 unfold Lib.hasPrefix onB
 match t with
 | [] => rfl
 | [a] => simp [List.isPrefixOf]
 | a :: b :: r =>
  simp only [List.isPrefixOf, Bool.and_true]
  rw [Bool.eq_iff_iff]
  simp only [Bool.and_eq_true, beq_iff_eq, decide_eq_true_eq]
  constructor
  ·rintro ⟨rfl, rfl⟩; exact ⟨rfl, rfl⟩
  ·rintro ⟨rfl, rfl⟩; exact ⟨rfl, rfl⟩
set_option maxHeartbeats 800000 in
theorem unsafe_any (t : Bs) (w : World) : Calls Tryz.prog 190 #[sv t] w (Ret (.bool (unsafeB t)) w) := by
 have HP := Lib.hid (fun W => show Calls Tryz.prog 220 #[.string ⟨t.toArray⟩, .string ⟨#[111, 110]⟩] W (fun e w' => e = .returned (.bool (onB t)) ∧ w' = W) from (Tryz.strings_HasPrefix ⟨t.toArray⟩ ⟨#[111, 110]⟩ W).mono fun e w' h => ⟨h.1.trans (by show _ = _; rw [show (⟨t.toArray⟩ : ByteArray).data.toList = t from rfl]; exact congrArg (fun b => Ending.returned (.bool b)) (on_prefix t)), h.2⟩)
 unfold unsafeB
 unfold sv
 cases hd : decide (t = srcdocT) with
 | true =>
  have m0 : ((⟨t.toArray⟩ : ByteArray).toList == [115, 114, 99, 100, 111, 99]) = true := by rw [ba_bqD]; exact hd
  generalize (⟨t.toArray⟩ : ByteArray) = x at *
  go_enter Tryz.func190, Tryz.ntmps190
  go_wp2_with fail
  go_ret
  exact Ret.of rfl (by (repeat with_reducible first | exact Below.refl _ _ | refine Below.drew ?_ | refine Below.drewN ?_ _ | refine Below.alloc ?_ ?_ _ | refine Below.grow ?_ ?_ _ | refine Below.setCell ?_ ?_ _); all_goals first | omega | (simp [go_sem] <;> omega))
 | false =>
  have m0 : ((⟨t.toArray⟩ : ByteArray).toList == [115, 114, 99, 100, 111, 99]) = false := by rw [ba_bqD]; exact hd
  generalize (⟨t.toArray⟩ : ByteArray) = x at *
  generalize onB t = o at *
  go_enter Tryz.func190, Tryz.ntmps190
  go_wp2_with (go_at_call 220; (with_reducible refine (HP.out _).mono ?_); rintro e w' ⟨rfl, rfl⟩)
  go_ret
  exact Ret.of rfl (by (repeat with_reducible first | exact Below.refl _ _ | refine Below.drew ?_ | refine Below.drewN ?_ _ | refine Below.alloc ?_ ?_ _ | refine Below.grow ?_ ?_ _ | refine Below.setCell ?_ ?_ _); all_goals first | omega | (simp [go_sem] <;> omega))
end Go.Proofs.YtbhhgbgfaemfdaaGreatDoor
namespace Go.Proofs.YtbhhgbgfaemfdaaGreatDoor
open Go.RowKit
attribute [local go_sem] Oper.semAt_some
def atC (f : Frc) : List Value := [sv f.name, sv f.value]
structure RulesV (W : World) (g : Nat) (p : Pol) : Prop where
 lt : g < W.heap.size
 c0 : ∃ b, W.cell? ⟨g, 0, none⟩ = some (.map (some b)) ∧ KeysM Tryz.prog 9 W b (p.tags.map sv)
 c1 : ∃ b, W.cell? ⟨g, 1, none⟩ = some (.map (some b)) ∧ KeysM Tryz.prog 9 W b (p.schemes.map sv)
 c2 : ∃ b, W.cell? ⟨g, 2, none⟩ = some (.map (some b)) ∧ KeysM Tryz.prog 9 W b (p.css.map sv)
 c3 : ∃ b, W.cell? ⟨g, 3, none⟩ = some (.map (some b)) ∧ KeysM Tryz.prog 9 W b (p.drops.map sv)
 c4 : ∃ b, W.cell? ⟨g, 4, none⟩ = some (.map (some b)) ∧ KeysM Tryz.prog 80 W b (p.attrs.map Alw.agg)
 c5 : ∃ b base, W.cell? ⟨g, 5, none⟩ = some (.map (some b)) ∧ GrpM Tryz.prog 9 110 2 Frc.tag atC W b base p.forces
 c6 : W.cell? ⟨g, 6, none⟩ = some (.bool p.rel)
 c7 : W.cell? ⟨g, 7, none⟩ = some (.int .i64 p.depth)
 c8 : W.cell? ⟨g, 8, none⟩ = some (.int .i64 p.name)
 c9 : W.cell? ⟨g, 9, none⟩ = some (.int .i64 p.value)
theorem RulesV.below {W W' : World} {g : Nat} {p : Pol} (h : RulesV W g p) (hb : Below W.heap.size W W') : RulesV W' g p := by
 have hc : ∀ j v, W.cell? ⟨g, j, none⟩ = some v → W'.cell? ⟨g, j, none⟩ = some v := fun j v hv => (hb.cell (p := ⟨g, j, none⟩) h.lt).trans hv
 obtain ⟨hl, ⟨b0, x0, y0⟩, ⟨b1, x1, y1⟩, ⟨b2, x2, y2⟩, ⟨b3, x3, y3⟩, ⟨b4, x4, y4⟩, ⟨b5, b6, x5, y5⟩, x6, x7, x8, x9⟩ := h
 exact ⟨Nat.lt_of_lt_of_le hl hb.size, ⟨b0, hc _ _ x0, y0.below hb⟩, ⟨b1, hc _ _ x1, y1.below hb⟩, ⟨b2, hc _ _ x2, y2.below hb⟩, ⟨b3, hc _ _ x3, y3.below hb⟩, ⟨b4, hc _ _ x4, y4.below hb⟩, ⟨b5, b6, hc _ _ x5, y5.below hb⟩, hc _ _ x6, hc _ _ x7, hc _ _ x8, hc _ _ x9⟩
set_option maxHeartbeats 800000 in
theorem tag_any (g : Nat) (p : Pol) (t : Bs) (w : World) (h : RulesV w g p) (ht : t.length ≤ maxLen) : Calls Tryz.prog 146 #[.pointer (some ⟨g, 0, none⟩), sv t] w (Ret (.bool (tagR p t)) w) := by
 have hl := h.lt
 obtain ⟨b, hc, hk⟩ := h.c0
 have HS := Lib.hid (fun W (hb : Below w.heap.size w W) => hasS_any b p.tags t W (hk.below hb) ht)
 unfold tagR
 generalize decide (t ∈ p.tags) = D at *
 clear h hk ht
 generalize sv t = v at *
 go_enter Tryz.func146, Tryz.ntmps146
 go_wp2_with (go_at_call 55; (with_reducible refine (HS.out _ (by (repeat with_reducible first | exact Below.refl _ _ | refine Below.drew ?_ | refine Below.drewN ?_ _ | refine Below.alloc ?_ ?_ _ | refine Below.grow ?_ ?_ _ | refine Below.setCell ?_ ?_ _); all_goals first | omega | (simp [go_sem] <;> omega))).mono ?_); rintro e W1 ⟨rfl, X1, rfl⟩)
 go_ret
 exact Ret.of rfl (by (repeat with_reducible first | exact Below.refl _ _ | refine Below.drew ?_ | refine Below.drewN ?_ _ | refine Below.alloc ?_ ?_ _ | refine Below.grow ?_ ?_ _ | refine Below.setCell ?_ ?_ _); all_goals first | omega | (simp [go_sem] <;> omega))
set_option maxHeartbeats 800000 in
theorem scheme_any (g : Nat) (p : Pol) (t : Bs) (w : World) (h : RulesV w g p) (ht : t.length ≤ maxLen) : Calls Tryz.prog 27 #[.pointer (some ⟨g, 0, none⟩), sv t] w (Ret (.bool (schR p t)) w) := by
 have hl := h.lt
 obtain ⟨b, hc, hk⟩ := h.c1
 have HS := Lib.hid (fun W (hb : Below w.heap.size w W) => hasS_any b p.schemes t W (hk.below hb) ht)
 unfold schR
 generalize decide (t ∈ p.schemes) = D at *
 clear h hk ht
 generalize sv t = v at *
 go_enter Tryz.func27, Tryz.ntmps27
 go_wp2_with (go_at_call 55; (with_reducible refine (HS.out _ (by (repeat with_reducible first | exact Below.refl _ _ | refine Below.drew ?_ | refine Below.drewN ?_ _ | refine Below.alloc ?_ ?_ _ | refine Below.grow ?_ ?_ _ | refine Below.setCell ?_ ?_ _); all_goals first | omega | (simp [go_sem] <;> omega))).mono ?_); rintro e W1 ⟨rfl, X1, rfl⟩)
 go_ret
 exact Ret.of rfl (by (repeat with_reducible first | exact Below.refl _ _ | refine Below.drew ?_ | refine Below.drewN ?_ _ | refine Below.alloc ?_ ?_ _ | refine Below.grow ?_ ?_ _ | refine Below.setCell ?_ ?_ _); all_goals first | omega | (simp [go_sem] <;> omega))
set_option maxHeartbeats 800000 in
theorem drop_any (g : Nat) (p : Pol) (t : Bs) (w : World) (h : RulesV w g p) (ht : t.length ≤ maxLen) : Calls Tryz.prog 148 #[.pointer (some ⟨g, 0, none⟩), sv t] w (Ret (.bool (dropR p t)) w) := by
 have hl := h.lt
 obtain ⟨b, hc, hk⟩ := h.c3
 have HS := Lib.hid (fun W (hb : Below w.heap.size w W) => hasS_any b p.drops t W (hk.below hb) ht)
 unfold dropR
 generalize decide (t ∈ p.drops) = D at *
 clear h hk ht
 generalize sv t = v at *
 go_enter Tryz.func148, Tryz.ntmps148
 go_wp2_with (go_at_call 55; (with_reducible refine (HS.out _ (by (repeat with_reducible first | exact Below.refl _ _ | refine Below.drew ?_ | refine Below.drewN ?_ _ | refine Below.alloc ?_ ?_ _ | refine Below.grow ?_ ?_ _ | refine Below.setCell ?_ ?_ _); all_goals first | omega | (simp [go_sem] <;> omega))).mono ?_); rintro e W1 ⟨rfl, X1, rfl⟩)
 go_ret
 exact Ret.of rfl (by (repeat with_reducible first | exact Below.refl _ _ | refine Below.drew ?_ | refine Below.drewN ?_ _ | refine Below.alloc ?_ ?_ _ | refine Below.grow ?_ ?_ _ | refine Below.setCell ?_ ?_ _); all_goals first | omega | (simp [go_sem] <;> omega))
theorem relative_any (g : Nat) (p : Pol) (w : World) (h : RulesV w g p) : Calls Tryz.prog 28 #[.pointer (some ⟨g, 0, none⟩)] w (Ret (.bool p.rel) w) := by
 have hl := h.lt
 have h6 := h.c6
 clear h
 go_enter Tryz.func28, Tryz.ntmps28
 go_wp2_with fail
 go_ret
 exact Ret.of rfl (by (repeat with_reducible first | exact Below.refl _ _ | refine Below.drew ?_ | refine Below.drewN ?_ _ | refine Below.alloc ?_ ?_ _ | refine Below.grow ?_ ?_ _ | refine Below.setCell ?_ ?_ _); all_goals first | omega | (simp [go_sem] <;> omega))
end Go.Proofs.YtbhhgbgfaemfdaaGreatDoor

