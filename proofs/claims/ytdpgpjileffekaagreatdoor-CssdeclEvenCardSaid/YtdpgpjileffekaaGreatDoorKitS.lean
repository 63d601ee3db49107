/- Small laws over any program, more: texts compared. -/
import Derived.Test.YtdpgpjileffekaaGreatDoorKitC
namespace Go.Proofs.YtdpgpjileffekaaGreatDoor
theorem ba_ext {a b : ByteArray} (h : a.data.toList = b.data.toList) : a = b := by
  obtain ⟨⟨x⟩⟩ := a
  obtain ⟨⟨y⟩⟩ := b
  simp at h; rw [h]
theorem ba_beq (a b : ByteArray) : (a == b) = decide (a.data.toList = b.data.toList) := by
  obtain ⟨⟨x⟩⟩ := a
  obtain ⟨⟨y⟩⟩ := b
  rw [Bool.eq_iff_iff]
  show ((⟨x⟩ : Array UInt8) == ⟨y⟩) = true ↔ _
  simp
theorem ba_bne (a b : ByteArray) : (a != b) = !decide (a.data.toList = b.data.toList) := by
  rw [bne, ba_beq]
theorem ba_bq (a b : ByteArray) : (a.toList == b.toList) = decide (a.data.toList = b.data.toList) := by
  rw [ByteArray.toList_eq, ByteArray.toList_eq, Bool.eq_iff_iff]; simp
theorem ba_bnq (a b : ByteArray) : (a.toList != b.toList) = !decide (a.data.toList = b.data.toList) := by
  rw [bne, ba_bq]
theorem ba_emp (a : ByteArray) : a.toList.isEmpty = decide (a.data.toList = []) := by
  rw [ByteArray.toList_eq, Bool.eq_iff_iff]; simp
theorem ba_full {a : ByteArray} (h : 0 < a.size) : a.toList.isEmpty = false := by
  rw [ba_emp]; simp; intro h2; simp [ByteArray.size, h2] at h
end Go.Proofs.YtdpgpjileffekaaGreatDoor
