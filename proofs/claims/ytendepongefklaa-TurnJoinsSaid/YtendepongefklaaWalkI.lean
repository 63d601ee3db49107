/- The walks of the turns: whether two lists are the same; the small thing that is tried first. -/
import Derived.Test.YtendepongefklaaWalkH
namespace Go.Proofs.Ytendepongefklaa
open Go.RowKit

theorem eq_step (a b c d e f : Int) (w : World) : (Op.equalIn 10000 35 (.agg #[.int .i64 a, .int .i64 b, .int .i64 c]) (.agg #[.int .i64 d, .int .i64 e, .int .i64 f])).run Try.prog w = .ok (a == d && (b == e && c == f)) w := by
  have h2 : Try.prog.underlying 35 = some (.struct (Try.prog.fieldsOf 35)) := by kernel_rfl
  have h3 : Try.prog.stoodInHeld 35 = false := by kernel_rfl
  rw [run_equalIn_agg _ _ _ _ _ h2 h3]
  simp only [Program.fieldsOf, Try.underlying35]
  by_cases h1 : a = d <;> by_cases h4 : b = e <;> by_cases h5 : c = f <;> simp [go_sem, Try.underlying3, h1, h4, h5]
@[go_sem high] theorem neq_step (a b c d e f : Int) (w : World) : (binOp .neq 35 (.agg #[.int .i64 a, .int .i64 b, .int .i64 c]) (.agg #[.int .i64 d, .int .i64 e, .int .i64 f])).run Try.prog w = .ok (.bool (!(a == d && (b == e && c == f)))) w := by
  rw [run_neq_struct, eq_step]; rfl
@[go_sem] theorem guard_step : Try.prog.eqGuardType Try.prog.depth 35 = false := by kernel_rfl
theorem st_beq (s t : St) : (s.k == t.k && (s.x == t.x && s.y == t.y)) = decide (s = t) := by
  obtain ⟨a, b, c⟩ := s
  obtain ⟨d, e, f⟩ := t
  by_cases h1 : a = d <;> by_cases h4 : b = e <;> by_cases h5 : c = f <;> simp [h1, h4, h5]

theorem take_more {l m : List St} {k : Nat} (h1 : k < l.length) (h2 : k < m.length) (h : l.take k = m.take k) (he : l[k] = m[k]) : l.take (k + 1) = m.take (k + 1) := by
  rw [List.take_succ_eq_append_getElem h1, List.take_succ_eq_append_getElem h2, h, he]

set_option maxHeartbeats 1000000 in
theorem same_any (v u : Value) (l m : List St) (w : World) (h : Sl w v l) (hu : Sl w u m) : Calls Try.prog 17 #[v, u] w (Ret (.bool (decide (l = m))) w) := by
  obtain ⟨a, cap, rfl, hl, hc⟩ := h
  obtain ⟨b, cap', rfl, hm, hd⟩ := hu
  by_cases hlen : l.length = m.length
  · have HL := Lib.hid hlen
    rw [hlen]
    rw [hlen] at hl
    clear hlen
    go_enter Try.func17, Try.ntmps17
    go_wp2_with fail
    go_loopw [5] (fun i wr => ∃ k : Nat, k ≤ m.length ∧ i = .int .i64 k ∧ (∃ X, wr = w.grow X) ∧ Hid (l.take k = m.take k)) (fun i _ => m.length - (intOf i).toNat)
    case atStart => exact ⟨0, by omega, rfl, ⟨_, (grow_refl w).symm⟩, by show _ = _; simp⟩
    case round =>
      obtain ⟨k, hk, rfl, ⟨X, rfl⟩, HK⟩ := hrel
      by_cases hlt : k < m.length
      · have hlt' : k < l.length := by rw [HL.out]; exact hlt
        rcases hc with rfl | ⟨b1, off1, rfl, hb, hc⟩
        · exact absurd hlt' (by simp)
        rcases hd with rfl | ⟨b2, off2, rfl, hb', hd⟩
        · exact absurd hlt (by simp)
        obtain ⟨c0, c1, c2⟩ := hc k (l[k]) (List.getElem?_eq_getElem hlt')
        obtain ⟨d0, d1, d2⟩ := hd k (m[k]) (List.getElem?_eq_getElem hlt)
        clear hc hd
        have HB := Lib.hid (st_beq l[k] m[k])
        cases he : (l[k].k == m[k].k && (l[k].x == m[k].x && l[k].y == m[k].y))
        · have HE : Hid (decide (l = m) = false) := by
            show _ = _
            rw [HB.out, decide_eq_false_iff_not] at he
            rw [decide_eq_false_iff_not]
            intro h; subst h; exact he rfl
          go_wp2_with fail
          refine wp_region_grow (by kernel_rfl) (by kernel_rfl) ?_
          repeat (go_big_quiet_step (fail))
          refine wpQuiet_nil ?_
          intro _ hw'; obtain ⟨nq, hw''⟩ := hw'; subst hw''
          go_wp2
          go_ret
          exact Ret.of (by rw [HE.out]; rfl) (by repeat (first | with_reducible exact Below.refl _ _ | (with_reducible refine Below.alloc ?_ (by first | omega | (simp [go_sem] <;> omega)) _) | (with_reducible refine Below.drew ?_) | (with_reducible refine Below.drewN ?_ _) | (with_reducible refine Below.grow ?_ (by first | omega | (simp [go_sem] <;> omega)) _) | (with_reducible refine Below.setCell ?_ (by first | omega | (simp [go_sem] <;> omega)) _)))
        · have HE : Hid (l[k] = m[k]) := by
            show l[k] = m[k]
            have h2 := he
            rw [HB.out] at h2
            exact of_decide_eq_true h2
          go_wp2_with fail
          refine wp_region_grow (by kernel_rfl) (by kernel_rfl) ?_
          repeat (go_big_quiet_step (fail))
          refine wpQuiet_nil ?_
          intro _ hw'; obtain ⟨nq, hw''⟩ := hw'; subst hw''
          go_wp2
          go_roundw
          case rel => exact ⟨k + 1, by omega, by go_num, grow_of_below (by repeat (first | with_reducible exact Below.refl _ _ | (with_reducible refine Below.alloc ?_ (by first | omega | (simp [go_sem] <;> omega)) _) | (with_reducible refine Below.drew ?_) | (with_reducible refine Below.drewN ?_ _) | (with_reducible refine Below.grow ?_ (by first | omega | (simp [go_sem] <;> omega)) _) | (with_reducible refine Below.setCell ?_ (by first | omega | (simp [go_sem] <;> omega)) _))), take_more hlt' hlt HK.out HE.out⟩
          case measure => simp [intOf]; omega
      · have : k = m.length := by omega
        subst this
        have HE : Hid (decide (l = m) = true) := by
          show _ = _
          have := HK.out
          rw [List.take_length, ← HL.out, List.take_length] at this
          exact decide_eq_true this
        go_wp2
        go_ret
        exact Ret.of (by rw [HE.out]; rfl) (by repeat (first | with_reducible exact Below.refl _ _ | (with_reducible refine Below.alloc ?_ (by first | omega | (simp [go_sem] <;> omega)) _) | (with_reducible refine Below.drew ?_) | (with_reducible refine Below.drewN ?_ _) | (with_reducible refine Below.grow ?_ (by first | omega | (simp [go_sem] <;> omega)) _) | (with_reducible refine Below.setCell ?_ (by first | omega | (simp [go_sem] <;> omega)) _)))
  · have HE : Hid (decide (l = m) = false) := decide_eq_false (fun h => hlen (by rw [h]))
    have hb : ((l.length : Int) != m.length) = true := by simp; omega
    clear hlen
    go_enter Try.func17, Try.ntmps17
    go_wp2
    go_ret
    exact Ret.of (by rw [HE.out]; rfl) (by repeat (first | with_reducible exact Below.refl _ _ | (with_reducible refine Below.alloc ?_ (by first | omega | (simp [go_sem] <;> omega)) _) | (with_reducible refine Below.drew ?_) | (with_reducible refine Below.drewN ?_ _) | (with_reducible refine Below.grow ?_ (by first | omega | (simp [go_sem] <;> omega)) _) | (with_reducible refine Below.setCell ?_ (by first | omega | (simp [go_sem] <;> omega)) _)))

theorem sl_new {W : World} {n : Nat} (l : List St) (c : Array Value) (t : TypeId) (hn : n = W.heap.size) (hc : c.toList = cells3 l) (hl : l.length ≤ 9223372036854775807) (cap : Nat) : Sl (W.alloc (.cells c t)) (.slice (some ⟨n, 0, none⟩) l.length cap) l := by
  refine ⟨_, cap, rfl, hl, Or.inr ⟨n, 0, rfl, by subst hn; simp, fun i s hs => ?_⟩⟩
  subst hn
  obtain ⟨h1, h2, h3⟩ := cells3_get l i s hs
  rw [← hc] at h1 h2 h3
  simp only [Nat.zero_add]
  simp only [World.cell?_alloc_new]
  simp only [Array.getElem?_toList] at h1 h2 h3
  exact ⟨h1, h2, h3⟩

theorem runV_awake : runV [⟨2, 1, 0⟩, ⟨1, 2, 0⟩] 1 0 = .tuple #[.int .i64 0, .int .i64 3, .int .i64 0] := by rfl
theorem neat_awake : neatE [⟨2, 5, 0⟩] = 0 ∧ neatOf [⟨2, 5, 0⟩] = [⟨2, 1, 0⟩] := by constructor <;> rfl

theorem RetL.abs {l : List St} {er : Int} {w w' : World} {e : Ending} (h : RetL l er w e w') : ∃ v, e = .returned (.tuple #[v, .int .i64 er]) ∧ Below w.heap.size w w' ∧ Sl w' v l := by
  obtain ⟨v, X, h1, rfl, h2⟩ := h
  exact ⟨v, h1, below_grow w X, h2⟩

set_option maxHeartbeats 1000000 in
theorem awake_any (w : World) : Calls Try.prog 10 #[] w (Ret (.bool true) w) := by
  go_enter Try.func10, Try.ntmps10
  go_wp2_with fail
  refine (run_any _ [⟨2, 1, 0⟩, ⟨1, 2, 0⟩] 1 0 _ (sl_new _ _ _ rfl rfl (by simp) 2)).mono ?_
  rw [runV_awake]
  rintro e w' ⟨rfl, X, rfl⟩
  go_wp2_with fail
  refine (neat_any _ [⟨2, 5, 0⟩] _ (sl_new _ _ _ (by simp [go_sem]) rfl (by simp) 1)).mono ?_
  rw [neat_awake.1, neat_awake.2]
  rintro e w' h
  obtain ⟨v, rfl, hb, a, cap, rfl, _, hc⟩ := h.abs
  have hb2 : Below w.heap.size w w' := Below.trans (b := _) (by repeat (first | with_reducible exact Below.refl _ _ | (with_reducible refine Below.alloc ?_ (by first | omega | (simp [go_sem] <;> omega)) _) | (with_reducible refine Below.drew ?_) | (with_reducible refine Below.drewN ?_ _) | (with_reducible refine Below.grow ?_ (by first | omega | (simp [go_sem] <;> omega)) _) | (with_reducible refine Below.setCell ?_ (by first | omega | (simp [go_sem] <;> omega)) _))) (hb.mono (by simp [go_sem] <;> omega))
  clear h hb
  rcases hc with hc | ⟨b, off, rfl, hb, hc⟩
  · cases hc
  obtain ⟨c0, c1, c2⟩ := hc 0 ⟨2, 1, 0⟩ rfl
  simp only [Nat.zero_mul, Nat.add_zero] at c0 c1 c2
  clear hc
  simp only [List.length_cons, List.length_nil, Nat.zero_add]
  go_wp2
  go_ret
  exact Ret.of rfl hb2
end Go.Proofs.Ytendepongefklaa
