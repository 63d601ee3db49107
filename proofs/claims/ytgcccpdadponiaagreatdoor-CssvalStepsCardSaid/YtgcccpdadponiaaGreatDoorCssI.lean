/- The walks of styles: what is passed over. -/
import Derived.Lib.IndexMore
import Derived.Test.YtgcccpdadponiaaGreatDoorCssH
namespace Go.Proofs.YtgcccpdadponiaaGreatDoor
open Go.RowKit Go.Shelf
attribute [local go_sem] Oper.semAt_some
/-- The library's variable holds some number. -/
def Mx (w : World) : Prop := ∃ m, w.cell? ⟨0, 0, none⟩ = some (.int .i64 m)
theorem Mx.lt {w : World} (h : Mx w) : 0 < w.heap.size := by
  obtain ⟨m, hm⟩ := h
  exact World.block_lt_of_cell? w _ hm
theorem Mx.grow {w : World} (h : Mx w) (X : Gr) : Mx (w.grow X) := by
  obtain ⟨m, hm⟩ := h
  exact ⟨m, cell_grow hm⟩
theorem Mx.turned {pv : Nat → Prop} {A B : World} (h : Mx A) (k : Turned pv A B) (hp : ¬ pv 0) : Mx B := by
  have h1 := h.lt
  obtain ⟨m, hm⟩ := h
  exact ⟨m, by unfold World.cell? at hm ⊢; rw [k.block 0 h1 hp]; exact hm⟩
def cutR (l : Bs) : Bs := (Lib.cut l [42, 47]).2.1
theorem pre_two (c : UInt8) (r : Bs) : ([42, 47] : Bs).isPrefixOf (c :: r) = (decide (c.toNat = 42) && hd (fun d => decide (d.toNat = 47)) r) := by
  cases r with
  | nil => simp [List.isPrefixOf, hd]
  | cons d r => rw [Bool.eq_iff_iff]; simp [List.isPrefixOf, hd, ← UInt8.toNat_inj]; constructor <;> (rintro ⟨h1, h2⟩; exact ⟨h1.symm, h2.symm⟩)
theorem cut_blk : ∀ (l : Bs), blkM 2 l = blkM 0 (cutR l) ∧ (cutR l).length ≤ l.length := by
  intro l
  induction l with
  | nil => exact ⟨rfl, by simp [cutR, Lib.cut, Lib.index]⟩
  | cons c r ih =>
    have hge := Lib.index_ge r [42, 47]
    by_cases h : ([42, 47] : Bs).isPrefixOf (c :: r) = true
    · have h2 := h
      rw [pre_two, Bool.and_eq_true, decide_eq_true_eq] at h2
      have e1 : cutR (c :: r) = r.drop 1 := by
        unfold cutR Lib.cut
        rw [show Lib.index (c :: r) [42, 47] = 0 by rw [Lib.index, if_pos h]]
        rfl
      refine ⟨?_, by rw [e1]; simp; omega⟩
      rw [e1]
      simp only [blkM]
      rw [if_pos h2]
      cases r with
      | nil => rfl
      | cons d r => rfl
    · have h2 := h
      rw [pre_two, Bool.and_eq_true, decide_eq_true_eq] at h2
      have e0 : blkM 2 (c :: r) = blkM 2 r := by simp only [blkM]; rw [if_neg h2]
      have e1 : cutR (c :: r) = cutR r := by
        unfold cutR Lib.cut
        by_cases hi : Lib.index r [42, 47] = -1
        · rw [show Lib.index (c :: r) [42, 47] = -1 by rw [Lib.index, if_neg h, if_pos (by simp [hi])], hi]
          rfl
        · have e2 : Lib.index (c :: r) [42, 47] = Lib.index r [42, 47] + 1 := by rw [Lib.index, if_neg h, if_neg (by simpa using hi)]
          rw [e2, if_pos (by omega), if_pos (by omega)]
          show (c :: r).drop ((Lib.index r [42, 47] + 1).toNat + 2) = r.drop ((Lib.index r [42, 47]).toNat + 2)
          rw [show (Lib.index r [42, 47] + 1).toNat + 2 = ((Lib.index r [42, 47]).toNat + 2) + 1 by omega]
          rfl
      rw [e0, e1]
      exact ⟨ih.1, by have := ih.2; simp; omega⟩
theorem cut_any (s : ByteArray) (W : World) (hW : Mx W) (hs : s.size ≤ 1000000000) : ∃ a b, Calls Tryz.prog 85 #[.string s, .string ⟨#[42, 47]⟩] W (Ret (.tuple #[.string a, .string ⟨(cutR s.data.toList).toArray⟩, .bool b]) W) := by
  obtain ⟨m, hm⟩ := hW
  refine ⟨_, _, (Tryz.strings_Cut s ⟨#[42, 47]⟩ m W (by omega) hm).mono fun e w' ⟨h1, n, h2⟩ => ⟨h1, ?_⟩⟩
  exact grow_of_below (h2 ▸ Below.drewN (Below.refl _ _) n)
theorem pre_slash (s : Bs) : Lib.hasPrefix s [47, 42] = match s with
    | [] => false
    | c :: r => decide (c.toNat = 47) && hd (fun d => decide (d.toNat = 42)) r := by
  cases s with
  | nil => rfl
  | cons c r =>
    cases r with
    | nil => simp [Lib.hasPrefix, List.isPrefixOf, hd]
    | cons d r => rw [Bool.eq_iff_iff]; simp [Lib.hasPrefix, hd, ← UInt8.toNat_inj]; constructor <;> (rintro ⟨h1, h2⟩; exact ⟨h1.symm, h2.symm⟩)
def strLen : Value → Nat
  | .string t => t.size
  | _ => 0
set_option maxRecDepth 100000 in
set_option maxHeartbeats 3200000 in
theorem blank_any (s : Bs) (w : World) (hw : Mx w) (hm : s.length ≤ 1000000000) : Calls Tryz.prog 69 #[.string ⟨s.toArray⟩] w (Ret (.string ⟨(blkM 0 s).toArray⟩) w) := by
  obtain ⟨R, hR⟩ : ∃ R, blkM 0 s = R := ⟨_, rfl⟩
  have HR := Lib.hid hR
  have HW := Lib.hid hw
  rw [hR]
  clear hR
  go_enter Tryz.func69, Tryz.ntmps69
  go_wp2_with fail
  go_loopw [0] (fun x wr => ∃ (u : Bs) (X : Gr), u.length ≤ s.length ∧ x = .string ⟨u.toArray⟩ ∧ wr = w.grow X ∧ Hid (blkM 0 u = R)) (fun x _ => strLen x)
  case atStart => exact ⟨s, _, Nat.le_refl _, rfl, (grow_refl w).symm, HR⟩
  case round =>
    obtain ⟨u, X, hle, rfl, rfl, HK⟩ := hrel
    cases u with
    | nil =>
      have HN : Hid (R = []) := HK.out.symm
      go_wp2
      go_ret
      exact Ret.of (by rw [HN.out]; rfl) (by repeat (first | with_reducible exact Below.refl _ _ | (with_reducible refine Below.alloc ?_ (by first | omega | (simp [go_sem] <;> omega)) _) | (with_reducible refine Below.drew ?_) | (with_reducible refine Below.drewN ?_ _) | (with_reducible refine Below.grow ?_ (by first | omega | (simp [go_sem] <;> omega)) _) | (with_reducible refine Below.setCell ?_ (by first | omega | (simp [go_sem] <;> omega)) _)))
    | cons c r =>
      obtain ⟨U, hU⟩ : ∃ U : ByteArray, ⟨(c :: r).toArray⟩ = U := ⟨_, rfl⟩
      have hUs : U.size = r.length + 1 := by rw [← hU]; rfl
      have hUd : U.data.toList = c :: r := by rw [← hU]
      have hUe := ba_full (a := U) (by omega)
      have hpos : 0 < U.size := by omega
      have hc0 : U[0] = c := by rw [at_bs U _ hUd 0 hpos]; rfl
      have hUm : U.size ≤ 1000000000 := by simp at hle; omega
      have he1 : U.extract 1 U.size = ⟨r.toArray⟩ := by rw [str_drop, hUd]; rfl
      have hU1 : 1 ≤ U.size := hpos
      have HL : Hid (r.length + 1 ≤ s.length) := by show _ ≤ _; simpa using hle
      have HUs := Lib.hid hUs
      have HUU := Lib.hid hU
      rw [hU]
      cases hsp : spB c
      · have HSp := Lib.hid (fun W => show Calls Tryz.prog 83 #[.int .u8 U[0].toNat] W fun e w' => e = .returned (.bool false) ∧ W = w' from by rw [hc0]; exact hsp ▸ space_any c W)
        have HPf := Lib.hid (fun W => show Calls Tryz.prog 84 #[.string U, .string ⟨#[47, 42]⟩] W fun e w' => e = .returned (.bool (decide (c.toNat = 47) && hd (fun d => decide (d.toNat = 42)) r)) ∧ w' = W from by
          have := Tryz.strings_HasPrefix U ⟨#[47, 42]⟩ W
          rw [show (⟨#[47, 42]⟩ : ByteArray).data.toList = [47, 42] from rfl, hUd, pre_slash] at this; exact this)
        have HB : Hid (blkM 0 (c :: r) = if c.toNat = 47 ∧ hd (fun d => decide (d.toNat = 42)) r = true then blkM 1 r else c :: r) := by show _ = _; simp only [blkM, hsp, Bool.false_eq_true, if_false]
        by_cases h47 : c.toNat = 47 ∧ hd (fun d => decide (d.toNat = 42)) r = true
        · rw [decide_eq_true h47.1, h47.2] at HPf
          rw [if_pos h47] at HB
          have HPf2 := Lib.hid HPf.out
          obtain ⟨d, r2, hr⟩ : ∃ d r2, r = d :: r2 := by
            cases r with
            | nil => simp [hd] at h47
            | cons d r2 => exact ⟨d, r2, rfl⟩
          have he2 : U.extract 2 U.size = ⟨r2.toArray⟩ := by rw [str_drop, hUd, hr]; rfl
          have hU2 : 2 ≤ U.size := by rw [hUs, hr]; simp
          have HC : Hid (∀ Y, ∃ a b, Calls Tryz.prog 85 #[.string (U.extract 2 U.size), .string ⟨#[42, 47]⟩] ((w.grow X).grow Y) (Ret (.tuple #[.string a, .string ⟨(cutR r2).toArray⟩, .bool b]) ((w.grow X).grow Y))) := fun Y => by
            have := cut_any (U.extract 2 U.size) ((w.grow X).grow Y) ((HW.out.grow X).grow Y) (by rw [ByteArray.size_extract]; omega)
            rwa [he2] at this ⊢
          have HC2 : Hid (∃ a b, Calls Tryz.prog 85 #[.string (U.extract 2 U.size), .string ⟨#[42, 47]⟩] (w.grow X) (Ret (.tuple #[.string a, .string ⟨(cutR r2).toArray⟩, .bool b]) (w.grow X))) := by
            have := cut_any (U.extract 2 U.size) (w.grow X) (HW.out.grow X) (by rw [ByteArray.size_extract]; omega)
            rwa [he2] at this ⊢
          obtain ⟨ca, cb, hcut2⟩ := HC2.out
          have HC3 := Lib.hid hcut2
          have HN : Hid (blkM 0 (cutR r2) = R) := by
            show _ = _
            rw [← HK.out, HB.out, hr, ← (cut_blk r2).1]; rfl
          have HLn : Hid ((cutR r2).length ≤ r2.length) := (cut_blk r2).2
          have HL2 : Hid (r.length = r2.length + 1) := by show _ = _; rw [hr]; rfl
          clear hcut2 HC HC2 hUd hc0 hsp h47 hr hU HPf he2 he1 hUs hle
          go_wp2_with (first | (go_at_call 83; (with_reducible refine (HSp.out _).mono ?_); rintro e w' ⟨rfl, rfl⟩) | (go_at_call 84; (with_reducible refine (HPf2.out _).mono ?_); rintro e w' ⟨rfl, rfl⟩) | (go_at_call 85; (with_reducible refine HC3.out.mono ?_); rintro e w' ⟨rfl, X1, rfl⟩))
          go_roundw
          case rel => exact ⟨cutR r2, _, by have := HL.out; have := HL2.out; have := HLn.out; omega, rfl, grow_grow w X X1, HN⟩
          case measure => have := HL2.out; have := HLn.out; have := HUs.out; show (cutR r2).length < U.size; omega
        · rw [if_neg h47] at HB
          have HPf2 := Lib.hid (show ∀ W, Calls Tryz.prog 84 #[.string U, .string ⟨#[47, 42]⟩] W fun e w' => e = .returned (.bool false) ∧ w' = W from by
            have h0 : (decide (c.toNat = 47) && hd (fun d => decide (d.toNat = 42)) r) = false := by
              rw [← Bool.not_eq_true, Bool.and_eq_true, decide_eq_true_eq]; exact h47
            rw [h0] at HPf; exact HPf.out)
          have HN : Hid (R = c :: r) := by show _ = _; rw [← HK.out, HB.out]
          clear hUd hc0 hsp h47 hU HPf he1 hUs hle
          go_wp2_with (first | (go_at_call 83; (with_reducible refine (HSp.out _).mono ?_); rintro e w' ⟨rfl, rfl⟩) | (go_at_call 84; (with_reducible refine (HPf2.out _).mono ?_); rintro e w' ⟨rfl, rfl⟩))
          go_ret
          exact Ret.of (by rw [HN.out, HUU.out]; rfl) (by repeat (first | with_reducible exact Below.refl _ _ | (with_reducible refine Below.alloc ?_ (by first | omega | (simp [go_sem] <;> omega)) _) | (with_reducible refine Below.drew ?_) | (with_reducible refine Below.drewN ?_ _) | (with_reducible refine Below.grow ?_ (by first | omega | (simp [go_sem] <;> omega)) _) | (with_reducible refine Below.setCell ?_ (by first | omega | (simp [go_sem] <;> omega)) _)))
      · have HSp := Lib.hid (fun W => show Calls Tryz.prog 83 #[.int .u8 U[0].toNat] W fun e w' => e = .returned (.bool true) ∧ W = w' from by rw [hc0]; exact hsp ▸ space_any c W)
        have HN : Hid (blkM 0 r = R) := by show _ = _; rw [← HK.out]; simp only [blkM, hsp, if_true]
        clear hUd hc0 hsp hU hUs hle
        go_wp2_with (go_at_call 83; (with_reducible refine (HSp.out _).mono ?_); rintro e w' ⟨rfl, rfl⟩)
        go_roundw
        case rel => exact ⟨r, X, by have := HL.out; omega, rfl, rfl, HN⟩
        case measure => have := HUs.out; show r.length < U.size; omega
end Go.Proofs.YtgcccpdadponiaaGreatDoor
