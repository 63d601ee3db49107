/- The walk of the lexer: the small thing that is tried first. -/
import Derived.Test.YtglnadikhcidnaaLexL
import Derived.Test.YtglnadikhcidnaaLexH
namespace Go.Proofs.Ytglnadikhcidnaa
open Go.RowKit
theorem scan_awake : scanL 0 [116, 97, 103, 115, 32, 97, 59] = .ok [⟨1, 0, [116, 97, 103, 115]⟩, ⟨1, 5, [97]⟩, ⟨4, 6, [59]⟩] := by rfl
theorem quote_awake : quoteV (quoteL [97, 34]) = .tuple #[.string ⟨#[34, 97, 92, 34, 34]⟩, .bool true] := by rfl
theorem scanP_ok {l : List Lx} {w w' : World} {e : Ending} (h : scanP (.ok l) w e w') : ∃ A c, Below w.heap.size w w' ∧ e = .returned (.tuple #[.slice A l.length c, .int .i64 0, .int .i64 0]) ∧ Rd w' (.slice A l.length c) l.length 3 (lxCells l) := by
  obtain ⟨v, hb, he, hr⟩ := h
  have hr2 := hr
  obtain ⟨_, _, A, c, rfl, _⟩ := hr
  exact ⟨A, c, hb, he, hr2⟩
set_option maxRecDepth 100000 in
set_option maxHeartbeats 2000000 in
theorem awake_any (w : World) : Calls Try.prog 9 #[] w (Ret (.bool true) w) := by
  go_enter Try.func9, Try.ntmps9
  go_wp2_with fail
  refine (scan_any _ _ (by decide)).mono ?_
  show ∀ e w', scanP (scanL 0 [116, 97, 103, 115, 32, 97, 59]) _ e w' → _
  rw [scan_awake]
  intro e w1 h
  obtain ⟨A, c, hb, rfl, hr⟩ := scanP_ok h
  obtain ⟨b, off, rfl, hlt, -, c4, -⟩ := hr.lx 1 (by decide)
  obtain ⟨b', off', e', -, c6, -, -⟩ := hr.lx 2 (by decide)
  cases e'
  simp only [List.getElem_cons_succ, List.getElem_cons_zero, Nat.reduceMul, Nat.reduceAdd] at c4 c6
  have HB := Lib.hid hb
  clear hr h hb
  go_wp2_with fail
  refine (quote_any _ _ (by decide)).mono ?_
  show ∀ e w', Ret (quoteV (quoteL [97, 34])) _ e w' → _
  rw [quote_awake]
  rintro e w2 ⟨rfl, X, rfl⟩
  go_wp2
  go_ret
  exact ⟨rfl, grow_of_below (HB.out.trans ((below_grow _ X).mono HB.out.size))⟩
set_option maxHeartbeats 1000000 in
theorem scan_full (s : ByteArray) (w : World) (hm : 8192 < s.size) : Calls Try.prog 10 #[.string s] w (Ret (.tuple #[.slice none 0 0, .int .i64 0, .int .i64 3]) w) := by
  have h8 : decide ((8192 : Int) < s.size) = true := by simp; omega
  clear hm
  go_enter Try.func10, Try.ntmps10
  go_wp2
  refine bodyPost_ret (v := .tuple #[.slice none 0 0, .int .i64 0, .int .i64 3]) ?_ rfl (Ret.of rfl (by repeat (first | with_reducible exact Below.refl _ _ | (with_reducible refine Below.alloc ?_ (by first | omega | (simp [go_sem] <;> omega)) _) | (with_reducible refine Below.drew ?_) | (with_reducible refine Below.drewN ?_ _) | (with_reducible refine Below.grow ?_ (by first | omega | (simp [go_sem] <;> omega)) _) | (with_reducible refine Below.setCell ?_ (by first | omega | (simp [go_sem] <;> omega)) _))))
  simp [results, Try.results10, go_sem]
set_option maxHeartbeats 1000000 in
theorem rscan_full (s : ByteArray) (w : World) (hm : 8192 < s.size) : Calls Try.prog 11 #[.string s] w (Ret (.tuple #[.slice none 0 0, .int .i64 0, .int .i64 3]) w) := by
  have h8 : decide ((8192 : Int) < s.size) = true := by simp; omega
  clear hm
  go_enter Try.func11, Try.ntmps11
  go_wp2
  go_ret3
  exact Ret.of rfl (by repeat (first | with_reducible exact Below.refl _ _ | (with_reducible refine Below.alloc ?_ (by first | omega | (simp [go_sem] <;> omega)) _) | (with_reducible refine Below.drew ?_) | (with_reducible refine Below.drewN ?_ _) | (with_reducible refine Below.grow ?_ (by first | omega | (simp [go_sem] <;> omega)) _) | (with_reducible refine Below.setCell ?_ (by first | omega | (simp [go_sem] <;> omega)) _)))
end Go.Proofs.Ytglnadikhcidnaa
