/- The walks of styles: numbers. -/
import Derived.Shelf.Strings.SlTrimAscii
import Derived.Deep.DeepCutAuto
import Derived.Deep.CutBlock
import Derived.Test.YtgcccpdadponiaaGreatDoorCssD
namespace Go.Proofs.YtgcccpdadponiaaGreatDoor
open Go.RowKit Go.Shelf
attribute [local go_sem] Oper.semAt_some
def numV (s : Bs) : Css × Nat := match numC s with
  | some x => x
  | none => (zeroC, 0)
theorem sg_contains (c : UInt8) : ([43, 45] : Bs).contains c = sgB c := by
  rw [Bool.eq_iff_iff]; simp [sgB, ← UInt8.toNat_inj]
theorem trim_sg (s : Bs) : Lib.trimLeftS s [43, 45] = s.drop (twc sgB s) := by
  rw [twc_drop]
  unfold Lib.trimLeftS
  congr 1
  funext c; exact sg_contains c
theorem trimleft_any (S : ByteArray) (W : World) : Calls Tryz.prog 111 #[.string S, .string ⟨#[43, 45]⟩] W (Ret (.string ⟨(S.data.toList.drop (twc sgB S.data.toList)).toArray⟩) W) := by
  refine (Any.strings_TrimLeft_laid Tryz.lays161 (by kernel_rfl) S ⟨#[43, 45]⟩ W (by decide) ?_).mono fun e w' ⟨h1, h2⟩ => ?_
  · intro j b hb
    have : b ∈ ([43, 45] : Bs) := List.mem_of_getElem? hb
    simp at this
    rcases this with rfl | rfl <;> decide
  · obtain ⟨X, hX⟩ := grow_of_below h2
    rw [show (⟨#[43, 45]⟩ : ByteArray).data.toList = [43, 45] from rfl, trim_sg] at h1
    exact ⟨h1, X, hX⟩
/-- More than one sign: none. -/
theorem num_signs {s : Bs} (h : 1 < twc sgB s) : numC s = none := by
  cases s with
  | nil => simp [twc] at h
  | cons c s =>
    cases hc : sgB c
    · simp [twc, hc] at h
    · cases s with
      | nil => simp [twc, hc] at h
      | cons d s =>
        have hd1 : sgB d = true := by
          cases hd0 : sgB d
          · simp [twc, hc, hd0] at h
          · rfl
        have h1 : digB d = false := by simp only [sgB, digB, decide_eq_true_eq, decide_eq_false_iff_not] at *; omega
        have h2 : d.toNat ≠ 46 := by simp only [sgB, decide_eq_true_eq] at hd1; omega
        have e1 : sgN (c :: d :: s) = 1 := by simp [sgN, hd, hc]
        have e2 : twc digB (d :: s) = 0 := by simp [twc, h1]
        have e3 : dotN (d :: s) = 0 := by simp [dotN, h2]
        unfold numC numP
        simp only [e1, List.drop_succ_cons, List.drop_zero, e2, e3, List.take_zero]
        rfl
theorem sg_one {s : Bs} (h : ¬ 1 < twc sgB s) : sgN s = twc sgB s := by
  cases s with
  | nil => rfl
  | cons c s =>
    cases hc : sgB c
    · simp [sgN, twc, hd, hc]
    · simp [sgN, twc, hd, hc] at h ⊢; omega
theorem int_eq {k : IntKind} {a b : Int} (h : a = b) : Value.int k a = Value.int k b := by rw [h]
theorem str_eq {a b : ByteArray} (h : a.data.toList = b.data.toList) : Value.string a = Value.string b := by rw [ba_ext h]
theorem zeros_any (n : Nat) (W : World) (h : n ≤ 3) : Calls Tryz.prog 114 #[.string ⟨#[48]⟩, .int .i64 n] W (Ret (.string ⟨(List.replicate n (48 : UInt8)).toArray⟩) W) := by
  refine (Tryz.strings_Repeat ⟨#[48]⟩ n W (by omega) (by show 1 * n ≤ _; omega)).mono fun e w' ⟨h1, h2⟩ => ?_
  obtain ⟨X, hX⟩ := grow_of_below h2
  refine ⟨?_, X, hX⟩
  rw [h1]
  congr 2
  have : n = 0 ∨ n = 1 ∨ n = 2 ∨ n = 3 := by omega
  rcases this with rfl | rfl | rfl | rfl <;> rfl
theorem prefix_any (S : ByteArray) (k : Nat) (c : UInt8) (W : World) : Calls Tryz.prog 84 #[.string (S.extract k S.size), .string ⟨#[c]⟩] W fun e w' => e = .returned (.bool (hd (fun d => decide (d.toNat = c.toNat)) (S.data.toList.drop k))) ∧ w' = W := by
  have := Tryz.strings_HasPrefix (S.extract k S.size) ⟨#[c]⟩ W
  rw [show (⟨#[c]⟩ : ByteArray).data.toList = [c] from rfl, extract_drop, prefix_one] at this; exact this
end Go.Proofs.YtgcccpdadponiaaGreatDoor
