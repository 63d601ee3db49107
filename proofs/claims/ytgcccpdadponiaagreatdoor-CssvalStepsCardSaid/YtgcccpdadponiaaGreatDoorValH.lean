/- The walks of values of styles: the pieces of steps; a value of movements, made neat. -/
import Derived.Test.YtgcccpdadponiaaGreatDoorValG
namespace Go.Proofs.YtgcccpdadponiaaGreatDoor
open Go.RowKit Go.Shelf
attribute [local go_sem] Oper.semAt_some
/-- The end of a call that hands back pieces, or none. -/
def RetV (w : World) (r : Option (List Css)) (e : Ending) (w' : World) : Prop := ∃ A c X, e = .returned (.tuple #[.slice A (r.getD []).length c, .bool r.isSome]) ∧ w' = w.grow X ∧ (A = none → c = 0) ∧ (r.getD []).length ≤ c ∧ Rd (w.grow X) (.slice A (r.getD []).length c) (r.getD []).length 4 (cssCells (r.getD []))
theorem RetV.no {w w' : World} {b : Bool} (hb : Below w.heap.size w w') (h : b = false) : RetV w none (.returned (.tuple #[.slice none 0 0, .bool b])) w' := by
  obtain ⟨X, rfl⟩ := grow_of_below hb
  subst h
  exact ⟨_, 0, X, rfl, rfl, fun _ => rfl, Nat.le_refl _, Rd.nil _ 4⟩
theorem RetV.own {w w' : World} {v : Value} {l : List Css} {b : Bool} {B n : Nat} {e : TypeId} (hb : Below w.heap.size w w') (h : b = true) (hn : n = l.length) (ho : w'.ownsRow B e 4 v n (cssCells l)) : RetV w (some l) (.returned (.tuple #[v, .bool b])) w' := by
  obtain ⟨X, rfl⟩ := grow_of_below hb
  subst h hn
  obtain ⟨A, c, rfl, hc⟩ := own_cap ho
  exact ⟨A, c, X, rfl, rfl, own_nil ho, hc, Rd.own ho⟩
theorem RetV.rd {w w' : World} {A : Option Addr} {c n : Nat} {l : List Css} {b : Bool} (hb : Below w.heap.size w w') (h : b = true) (hn : n = l.length) (hA : A = none → c = 0) (hc : l.length ≤ c) (hr : Rd w' (.slice A l.length c) l.length 4 (cssCells l)) : RetV w (some l) (.returned (.tuple #[.slice A n c, .bool b])) w' := by
  obtain ⟨X, rfl⟩ := grow_of_below hb
  subst h hn
  exact ⟨A, c, X, rfl, rfl, hA, hc, hr⟩
theorem RetV.flat {P : Program} {f : FuncId} {args : Array Value} {w1 : World} {X : Gr} {r : Option (List Css)} (h : Calls P f args (w1.grow X) (RetV (w1.grow X) r)) : Calls P f args (w1.grow X) (RetV w1 r) :=
  h.mono fun _ _ ⟨A, c, Y, h1, h2, h3, h4, h5⟩ => ⟨A, c, _, h1, h2.trans (grow_grow w1 X Y), h3, h4, by rw [← grow_grow]; exact h5⟩
theorem st_ok {s : St} (h : mayB s = true) : StOk s := by
  obtain ⟨k, x, y⟩ := s
  unfold mayB at h
  simp only at h
  split at h
  · rename_i h1
    simp only [Bool.and_eq_true] at h
    have ha := near_abs h.1
    have hb := near_abs h.2
    exact ⟨by simp only; omega, by simp only; omega, by simp only; omega, by simp only; omega, by simp only; omega, by simp only; omega, fun h => by simp only at h; omega⟩
  · split at h
    · rename_i h2
      simp only [Bool.and_eq_true, decide_eq_true_eq] at h
      have ha := near_abs h.1
      exact ⟨by simp only; omega, by simp only; omega, by simp only; omega, by simp only; omega, by simp only; omega, by simp only; omega, fun h => by simp only at h ⊢; omega⟩
    · split at h
      · rename_i h3
        simp only [Bool.and_eq_true, decide_eq_true_eq] at h
        exact ⟨by simp only; omega, by simp only; omega, by simp only; omega, by simp only; omega, by simp only; omega, by simp only; omega, fun h => by simp only at h; omega⟩
      · split at h
        · simp only [Bool.and_eq_true, decide_eq_true_eq] at h
          exact ⟨by simp only; omega, by simp only; omega, by simp only; omega, by simp only; omega, by simp only; omega, by simp only; omega, fun h => by simp only at h; omega⟩
        · cases h
theorem pieces_snoc (l : List St) (k : Nat) (hk : k < l.length) : piecesT (l.take (k + 1)) = piecesT (l.take k) ++ toldT l[k] := by
  unfold piecesT
  rw [List.take_succ_eq_append_getElem hk, List.flatMap_append]; simp
theorem pieces_len (l : List St) : (piecesT l).length ≤ l.length * 5 := by
  induction l with
  | nil => simp [piecesT]
  | cons s l ih =>
    have h := (told_len3 s).2
    show (toldT s ++ piecesT l).length ≤ _
    rw [List.length_append, List.length_cons]; omega
set_option maxRecDepth 100000 in
set_option maxHeartbeats 2000000 in
theorem pieces16_any (v : Value) (l : List St) (w : World) (h : Sl w v l) : Calls Tryz.prog 16 #[v] w (RetV w (if rightB l then some (piecesT l) else none)) := by
  have hmx : Tryz.prog.follows .mixedOrders = true := by kernel_rfl
  have HRt0 := tright_any v l w h
  obtain ⟨a, cap, rfl, hl, hc⟩ := h
  cases hr : rightB l
  · rw [hr] at HRt0
    have HRt := Lib.hid HRt0
    clear HRt0 hc
    go_enter Tryz.func16, Tryz.ntmps16
    go_wp2_with (go_at_call 19; (with_reducible refine HRt.out.mono ?_); rintro e w' ⟨rfl, X1, rfl⟩)
    go_ret2
    exact RetV.no (by repeat (first | with_reducible exact Below.refl _ _ | (with_reducible refine Below.alloc ?_ (by first | omega | (simp [go_sem] <;> omega)) _) | (with_reducible refine Below.drew ?_) | (with_reducible refine Below.drewN ?_ _) | (with_reducible refine Below.grow ?_ (by first | omega | (simp [go_sem] <;> omega)) _) | (with_reducible refine Below.setCell ?_ (by first | omega | (simp [go_sem] <;> omega)) _))) rfl
  · rw [hr] at HRt0
    have HRt := Lib.hid HRt0
    obtain ⟨hm, h8⟩ := right_may hr
    have HM := Lib.hid hm
    have HC := Lib.hid hc
    clear HRt0 hc hm hr
    go_enter Tryz.func16, Tryz.ntmps16
    go_wp2_with (go_at_call 19; (with_reducible refine HRt.out.mono ?_); rintro e w' ⟨rfl, X1, rfl⟩)
    go_loopw [4, 12] (fun vo i wr => ∃ k : Nat, k ≤ l.length ∧ i = .int .i64 k ∧ Hid (Below w.heap.size w wr) ∧ Hid (wr.ownsRow w.heap.size 37 4 vo (piecesT (l.take k)).length (cssCells (piecesT (l.take k))))) (fun _ i _ => l.length - (intOf i).toNat)
    case atStart => exact ⟨0, by omega, rfl, below_grow _ _, by show World.ownsRow _ _ _ _ _ _ _; rw [List.take_zero]; exact World.ownsRow_nil _ _ _ _⟩
    case round =>
      obtain ⟨k, hk, rfl, HB, HO⟩ := hrel
      by_cases hlt : k < l.length
      · obtain ⟨b, off, rfl, hb, hcs⟩ : ∃ b off, a = some ⟨b, off, none⟩ ∧ b < w.heap.size ∧ w.cell? ⟨b, off + k * 3, none⟩ = some (.int .i64 l[k].k) ∧ w.cell? ⟨b, off + k * 3 + 1, none⟩ = some (.int .i64 l[k].x) ∧ w.cell? ⟨b, off + k * 3 + 2, none⟩ = some (.int .i64 l[k].y) := by
          rcases HC.out with rfl | ⟨b, off, rfl, hc⟩
          · simp at hlt
          · exact ⟨b, off, rfl, hc.1, hc.2 k l[k] (List.getElem?_eq_getElem hlt)⟩
        obtain ⟨c0, c1, c2⟩ := hcs
        have c0 := (HB.out.cell hb).trans c0
        have c1 := (HB.out.cell hb).trans c1
        have c2 := (HB.out.cell hb).trans c2
        have HTo := Lib.hid (fun W => told16_any l[k] W (st_ok (HM.out _ (List.getElem_mem hlt))))
        have HS : Hid (piecesT (l.take (k + 1)) = piecesT (l.take k) ++ toldT l[k]) := pieces_snoc l k hlt
        have htl := told_len3 l[k]
        have hpl : (piecesT (l.take k)).length ≤ 1000 := by have := pieces_len (l.take k); rw [List.length_take] at this; omega
        simp only [St.val] at HTo
        generalize toldT l[k] = TS at *
        generalize l[k].k = sk at *
        generalize l[k].x = sx at *
        generalize l[k].y = sy at *
        generalize hPk : piecesT (l.take k) = PK at *
        have hsz := HB.out.size
        go_wp2_with (first
          | (go_at_call 36; (with_reducible refine (HTo.out _).mono ?_); rintro e w' ⟨v3, X3, rfl, rfl, ho3⟩; obtain ⟨g3, cap3, rfl⟩ := Go.Joins.ownsRow_form ho3 (by omega); have HN3 := Lib.hid (news_rd (Rd.own ho3) (own_nil ho3) (Below.refl _ _)); have HL3 := Lib.hid ho3.1; clear ho3)
          | (at_builtin; go_loud (refine append_any rfl _ _ 22 rfl css_row w.heap.size rfl (own_grow (HO.out.alloc _) X3) (by simp [go_sem]; omega) TS.length (cssCells TS) HN3.out HL3.out (cssc_one TS) (by unfold maxLen; omega) (by omega) ?_); intro v4 W4 ho4 hg4; go_loud (have HB4 := own_step hg4 (own_grow (HO.out.alloc _) X3) (below_out HB.out (by repeat (first | with_reducible exact Below.refl _ _ | (with_reducible refine Below.alloc ?_ (by first | omega | (simp [go_sem] <;> omega)) _) | (with_reducible refine Below.drew ?_) | (with_reducible refine Below.drewN ?_ _) | (with_reducible refine Below.grow ?_ (by first | omega | (simp [go_sem] <;> omega)) _) | (with_reducible refine Below.setCell ?_ (by first | omega | (simp [go_sem] <;> omega)) _))))); have HO4 := Lib.hid ho4; clear ho4 hg4))
        go_roundw
        case rel => exact ⟨k + 1, by omega, by go_num, HB4.out, by show World.ownsRow _ _ _ _ _ _ _; rw [HS.out, List.length_append, css_app]; exact HO4.out⟩
        case measure => simp [intOf]; omega
      · have hkl : k = l.length := by omega
        subst hkl
        go_wp2_with fail
        go_ret2
        have hO := HO.out
        rw [List.take_length] at hO
        exact RetV.own HB.out rfl rfl hO
end Go.Proofs.YtgcccpdadponiaaGreatDoor
