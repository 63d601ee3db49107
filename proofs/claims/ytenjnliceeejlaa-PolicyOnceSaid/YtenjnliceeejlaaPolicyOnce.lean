/- A word told twice is there once; a limit that is told is there, others as they are without being told: PolicyOnce returns true. No condition: whatever the arguments. -/
import Derived.ProofKit
import Derived.ChangeSame
import Derived.ChangeAt
import Derived.SizedLaws
import Derived.OpenShut
import Derived.ShutString
import Derived.ChangeOld
import Derived.JoinedCond
import Derived.Test.YtenjnliceeejlaaRows
import Derived.Test.YtenjnliceeejlaaRG
import Derived.Test.YtenjnliceeejlaaPolW
namespace Go.Proofs.Ytenjnliceeejlaa.policyOnce
open Go.ChangeShapes Go.WideShapes Go.ChangeAt Go.RowKit
open Go.ChangeMaps (open_string shut_string)

theorem own : ownKnob Try.prog.godebug = none := by kernel_rfl
theorem laidOut : laidOutB Try.prog = true := by kernel_rfl

attribute [local go_sem] Oper.semAt_some

section
open Go.Deep
variable {H : Type} {enc : TypeId × Value → H} {w : World} {base : Nat} {spare : Nat → Bool} {held : Bool}
theorem strs_max {fuel : Nat} {v : Value} {x : DataW H × List MemPlace} (h : DataW.trod enc Try.prog w base spare held fuel 22 [v] = some x) : ∃ l : List Bs, Rx w (fun _ => False) v l.length 1 (l.map sv) ∧ ∀ t ∈ l, t.length ≤ maxLen := by
  obtain ⟨l, hl, _⟩ := strs_open h
  refine ⟨l, hl, fun t ht => ?_⟩
  obtain ⟨k, hk, rfl⟩ := List.getElem_of_mem ht
  obtain ⟨A, c, rfl, _, ⟨_, _, A', c', e, h4⟩, _⟩ := hl
  cases e
  obtain ⟨b, off, rfl, _, hc⟩ := h4 (by omega)
  have h9 := hc k (sv l[k]) (by simp [hk])
  rcases open_slice1 Try.underlying22 (by kernel_rfl) h with ⟨hcs, _⟩ | ⟨a, len, cap, m, n, V, D, Pl, hcs, _, _, _, hmm, _, hi⟩
  · simp at hcs
  · simp at hcs
    obtain ⟨rfl, rfl, rfl⟩ := hcs
    obtain ⟨h1, h2⟩ := hi k (by rw [hmm]; split <;> omega)
    have hadd : (⟨b, off, none⟩ : Addr).add k = ⟨b, off + k, none⟩ := by unfold Addr.add; split <;> simp_all
    rw [hadd, h9] at h1
    obtain ⟨s, e1, _, e2⟩ := DataW.trod_string Try.underlying9 h2
    rw [← Option.some.inj h1] at e1
    simp only [List.cons.injEq, and_true, sv, Value.string.injEq] at e1
    have := congrArg ByteArray.size e1
    have e3 : (⟨l[k].toArray⟩ : ByteArray).size = l[k].length := by show l[k].toArray.size = _; simp
    omega
end
theorem tdiv_nn (k : Nat) : Int.tdiv (k : Int) 10 = ((k / 10 : Nat) : Int) := rfl
theorem tmod_nn (k : Nat) : Int.tmod (k : Int) 10 = ((k % 10 : Nat) : Int) := rfl
set_option maxRecDepth 100000 in
set_option maxHeartbeats 2000000 in
theorem figures_any (d : Int) (w : World) (hd : d ≤ 9223372036854775807) : Calls Try.prog 16 #[.int .i64 d] w (Ret (.string ⟨(figL d.toNat).toArray⟩) w) := by
  obtain ⟨R, hR⟩ : ∃ R : ByteArray, (⟨(figL d.toNat).toArray⟩ : ByteArray) = R := ⟨_, rfl⟩
  have HE : Hid (R.data.toList = figL d.toNat) := by show _ = _; rw [← hR]
  rw [hR]
  clear hR
  go_enter Try.func16, Try.ntmps16
  go_wp2_with fail
  go_loopw [0, 3] (fun nv sv' wr => ∃ (m : Int) (b : ByteArray), nv = .int .i64 m ∧ sv' = .string b ∧ m ≤ 9223372036854775807 ∧ b.size + m.toNat ≤ d.toNat ∧ Hid (R.data.toList = figL m.toNat ++ b.data.toList) ∧ Hid (Below w.heap.size w wr)) (fun nv _ _ => (intOf nv).toNat)
  case atStart => exact ⟨d, ⟨#[]⟩, rfl, rfl, hd, by show 0 + _ ≤ _; omega, by show _ = _; rw [HE.out]; simp, by show Below _ _ _; exact (by repeat (first | with_reducible exact Below.refl _ _ | (with_reducible refine Below.alloc ?_ (by first | omega | (simp [go_sem] <;> omega)) _) | (with_reducible refine Below.drew ?_) | (with_reducible refine Below.drewN ?_ _) | (with_reducible refine Below.grow ?_ (by first | omega | (simp [go_sem] <;> omega)) _) | (with_reducible refine Below.setCell ?_ (by first | omega | (simp [go_sem] <;> omega)) _)))⟩
  case round =>
    clear HE
    obtain ⟨m, b, rfl, rfl, hm, hbm, HK, HB⟩ := hrel
    by_cases h0 : 0 < m
    · obtain ⟨k, rfl⟩ : ∃ k : Nat, m = k := ⟨m.toNat, by omega⟩
      have hk0 : k ≠ 0 := by omega
      have HN : Hid (R.data.toList = figL (k / 10) ++ ([UInt8.ofNat (48 + k % 10)] ++ b.data.toList)) := by show _ = _; rw [HK.out, Int.toNat_natCast, figL_step hk0, List.append_assoc]
      have hb9 : b.size ≤ 9223372036854775807 := by omega
      have hcv : ∀ W : World, (convert 75 9 (.slice (some ⟨W.heap.size, 0, none⟩) 1 1)).run Try.prog (W.alloc (.cells #[.int .u8 (48 + (k : Int) % 10)] 5)) = .ok (.string ⟨#[UInt8.ofNat (48 + k % 10)]⟩) (W.alloc (.cells #[.int .u8 (48 + (k : Int) % 10)] 5)) := fun W => by
        rw [show (48 + (k : Int) % 10) = ((48 + k % 10 : Nat) : Int) by omega]
        have h9 := Rd.own (own_lit (W := W) (e := 5) (c := #[.int .u8 ((48 + k % 10 : Nat) : Int)]) (n := 1) (size := 1) (by simp) (by unfold maxLen; omega))
        have h8 : Rd (W.alloc (.cells #[.int .u8 ((48 + k % 10 : Nat) : Int)] 5)) (.slice (some ⟨W.heap.size, 0, none⟩) 1 1) [UInt8.ofNat (48 + k % 10)].length 1 ([UInt8.ofNat (48 + k % 10)].map bv) := by
          have e : [UInt8.ofNat (48 + k % 10)].map bv = [.int .u8 ((48 + k % 10 : Nat) : Int)] := by
            simp only [List.map_cons, List.map_nil, bv, dig_byte (k % 10) (by omega)]
          rw [e]; exact h9
        exact h8.str 75 9 5 Try.underlying75 Try.underlying5 Try.underlying9
      have hw8 : IntKind.u8.wrap (48 + (k : Int) % 10) = 48 + (k : Int) % 10 := IntWalk.u8_in _ (by omega)
      have hrem : Int.tmod (k : Int) 10 = ((k % 10 : Nat) : Int) := rfl
      have hdiv : Int.tdiv (k : Int) 10 = ((k / 10 : Nat) : Int) := rfl
      obtain ⟨ch, hch⟩ : ∃ c : UInt8, UInt8.ofNat (48 + k % 10) = c := ⟨_, rfl⟩
      rw [hch] at HN hcv
      have hdv : ((k : Int) / 10).toNat = k / 10 := by omega
      clear HK hch
      go_wp2_with fail
      go_roundw
      case rel => exact ⟨(k : Int) / 10, ⟨#[ch]⟩ ++ b, by first | rfl | (simp; done), rfl, by omega, by show (⟨#[ch]⟩ ++ b : ByteArray).size + _ ≤ _; rw [ByteArray.size_append]; show 1 + _ + _ ≤ _; omega, by show _ = _; rw [HN.out, hdv]; simp, by show Below _ _ _; exact below_next HB.out (by (repeat (first | with_reducible exact Below.refl _ _ | (with_reducible refine Below.alloc ?_ (by first | omega | (simp [go_sem] <;> omega)) _) | (with_reducible refine Below.drew ?_) | (with_reducible refine Below.drewN ?_ _) | (with_reducible refine Below.grow ?_ (by first | omega | (simp [go_sem] <;> omega)) _) | (with_reducible refine Below.setCell ?_ (by first | omega | (simp [go_sem] <;> omega)) _))); done)⟩
      case measure => simp [intOf]; omega
    · have hz : m.toNat = 0 := by omega
      have HF : Hid (R = b) := by
        refine ba_ext ?_
        rw [HK.out, hz]; rfl
      clear HK hz
      go_wp2_with fail
      go_ret
      exact Ret.of (by rw [HF.out]; rfl) HB.out

theorem say_more (l : List Bs) (k : Nat) (hk : k < l.length) : tagsS (l.take (k + 1)) = tagsS (l.take k) ++ 32 :: l[k] := by
  have : ∀ (a : List Bs) (x : Bs), sayW (a ++ [x]) = sayW a ++ 32 :: x := by
    intro a x
    induction a with
    | nil => simp [sayW]
    | cons y a ih => simp [sayW, ih]
  unfold tagsS
  rw [List.take_succ_eq_append_getElem hk, this, List.append_assoc]
theorem neat_count {l : List Bs} {t : Bs} (h : t ∈ l) : (neatL ltB l).count t = 1 := by
  have h1 := rise_one swoB t (neat_rise swoB l)
  obtain ⟨z, hz, he⟩ := neat_has swoB h
  rw [ev_B, decide_eq_true_eq] at he
  subst he
  have h2 : (neatL ltB l).count t = ((neatL ltB l).filter (ev ltB t)).length := by
    rw [List.count_eq_length_filter]
    congr 1
    refine List.filter_congr fun x _ => ?_
    rw [ev_B, Bool.eq_iff_iff, beq_iff_eq, decide_eq_true_eq]; exact eq_comm
  have h3 : 0 < (neatL ltB l).count t := List.count_pos_iff.2 hz
  omega
theorem count_take {l : List Bs} {t : Bs} {k : Nat} (hk : k < l.length) : (l.take (k + 1)).count t = (l.take k).count t + if l[k] = t then 1 else 0 := by
  rw [List.take_succ_eq_append_getElem hk, List.count_append, List.count_singleton]
  by_cases h : l[k] = t <;> simp [h]
set_option maxRecDepth 100000 in
set_option maxHeartbeats 8000000 in
theorem walk (v : Value) (l : List Bs) (d : Int) (w : World) (h : Rx w (fun _ => False) v l.length 1 (l.map sv) ∧ ∀ t ∈ l, t.length ≤ maxLen) (hd : (Lit.int .i64 d).wf = true) : Calls Try.prog 6 #[v, .int .i64 d] w (Ret (.bool true) w) := by
  have hmx : Try.prog.follows .mixedOrders = true := by kernel_rfl
  obtain ⟨⟨A, c, rfl, _, hrd, _⟩, hmax⟩ := h
  have hd9 : d ≤ 9223372036854775807 := by
    have e1 : IntKind.i64.min = -9223372036854775808 := rfl
    have e2 : IntKind.i64.max = 9223372036854775807 := rfl
    simp only [Lit.wf, e1, e2, Bool.and_eq_true, decide_eq_true_eq] at hd
    exact hd.2
  have HR := Lib.hid hrd
  have HMax := Lib.hid hmax
  obtain ⟨n, hn⟩ : ∃ n, l.length = n := ⟨_, rfl⟩
  have HN := Lib.hid hn
  have hn63 := hrd.2.1
  rw [hn] at hn63 HR ⊢
  clear hrd hmax hn hd
  by_cases h60 : 60 < n
  · go_enter Try.func6, Try.ntmps6
    go_wp2_with (go_at_call 7; (with_reducible refine (awake08_any _).mono ?_); rintro e Wa ⟨rfl, Xa, rfl⟩)
    go_ret
    exact Ret.of rfl (by repeat (first | with_reducible exact Below.refl _ _ | (with_reducible refine Below.alloc ?_ (by first | omega | (simp [go_sem] <;> omega)) _) | (with_reducible refine Below.drew ?_) | (with_reducible refine Below.drewN ?_ _) | (with_reducible refine Below.grow ?_ (by first | omega | (simp [go_sem] <;> omega)) _) | (with_reducible refine Below.setCell ?_ (by first | omega | (simp [go_sem] <;> omega)) _)))
  by_cases h0 : n = 0
  · subst h0
    go_enter Try.func6, Try.ntmps6
    go_wp2_with (go_at_call 7; (with_reducible refine (awake08_any _).mono ?_); rintro e Wa ⟨rfl, Xa, rfl⟩)
    go_ret
    exact Ret.of rfl (by repeat (first | with_reducible exact Below.refl _ _ | (with_reducible refine Below.alloc ?_ (by first | omega | (simp [go_sem] <;> omega)) _) | (with_reducible refine Below.drew ?_) | (with_reducible refine Below.drewN ?_ _) | (with_reducible refine Below.grow ?_ (by first | omega | (simp [go_sem] <;> omega)) _) | (with_reducible refine Below.setCell ?_ (by first | omega | (simp [go_sem] <;> omega)) _)))
  have h0b : ((n : Int) == 0) = false := by simp; omega
  go_enter Try.func6, Try.ntmps6
  go_wp2_with (go_at_call 7; (with_reducible refine (awake08_any _).mono ?_); rintro e Wa ⟨rfl, Xa, hXa⟩; have HA0 := Lib.hid (show Below w.heap.size w Wa by rw [hXa]; exact (by repeat (first | with_reducible exact Below.refl _ _ | (with_reducible refine Below.alloc ?_ (by first | omega | (simp [go_sem] <;> omega)) _) | (with_reducible refine Below.drew ?_) | (with_reducible refine Below.drewN ?_ _) | (with_reducible refine Below.grow ?_ (by first | omega | (simp [go_sem] <;> omega)) _) | (with_reducible refine Below.setCell ?_ (by first | omega | (simp [go_sem] <;> omega)) _)))); clear hXa)
  go_loopw [6, 7] (fun sv' i wr => ∃ (k : Nat) (sb : ByteArray), k ≤ n ∧ i = .int .i64 (k : Nat) ∧ sv' = .string sb ∧ sb.size ≤ 4 + 65 * k ∧ Hid (sb.data.toList = tagsS (l.take k)) ∧ Hid (∀ t ∈ l.take k, wordB t = true) ∧ Hid (Below w.heap.size w wr)) (fun _ i _ => n - (intOf i).toNat)
  case atStart => exact ⟨0, ⟨#[116, 97, 103, 115]⟩, by omega, rfl, rfl, by show 4 ≤ _; omega, by show _ = _; rfl, by show ∀ t ∈ _, _; simp, HA0.out⟩
  case round =>
    clear HA0
    obtain ⟨k, sb, hk, rfl, rfl, hsb, HK, HW, HB⟩ := hrel
    by_cases hlt : k < n
    · have hkl : k < l.length := by rw [HN.out]; exact hlt
      obtain ⟨t, hx⟩ : ∃ t, l[k] = t := ⟨_, rfl⟩
      have hr9 : Rd wr (.slice A l.length c) l.length 1 (l.map sv) := by rw [HN.out]; exact HR.out.belowX HB.out
      obtain ⟨b, o, rfl, hb, x0⟩ := Rd.atS hr9 k t (by rw [← hx]; exact List.getElem?_eq_getElem hkl)
      have htm := HMax.out t (by rw [← hx]; exact List.getElem_mem hkl)
      have HWo := Lib.hid (fun W => show Calls Try.prog 15 #[.string ⟨t.toArray⟩] W (Ret (.bool (wordB t)) W) from word_any ⟨t.toArray⟩ W (by show t.toArray.size ≤ _; unfold maxLen at htm; simp; omega))
      have hSay := say_more l k hkl
      rw [hx] at hSay
      have HSay := Lib.hid hSay
      have HTk : Hid (l.take (k + 1) = l.take k ++ [t]) := by show _ = _; rw [List.take_succ_eq_append_getElem hkl, hx]
      have hts : (⟨t.toArray⟩ : ByteArray).size = t.length := by show t.toArray.size = _; simp
      have HTl : Hid ((⟨t.toArray⟩ : ByteArray).data.toList = t) := by show _ = _; simp
      simp only [sv] at x0
      clear hr9 hx hSay htm
      generalize (⟨t.toArray⟩ : ByteArray) = ts at *
      cases hw : wordB t with
      | false =>
        rw [hw] at HWo
        clear hw
        go_wp2_with (go_at_call 15; (with_reducible refine (HWo.out _).mono ?_); rintro e W1 ⟨rfl, X1, hX1⟩; have hb1 : Below wr.heap.size wr W1 := (by rw [hX1]; exact (by repeat (first | with_reducible exact Below.refl _ _ | (with_reducible refine Below.alloc ?_ (by first | omega | (simp [go_sem] <;> omega)) _) | (with_reducible refine Below.drew ?_) | (with_reducible refine Below.drewN ?_ _) | (with_reducible refine Below.grow ?_ (by first | omega | (simp [go_sem] <;> omega)) _) | (with_reducible refine Below.setCell ?_ (by first | omega | (simp [go_sem] <;> omega)) _)))); clear hX1)
        go_ret
        exact Ret.of rfl (below_next HB.out hb1)
      | true =>
        rw [hw] at HWo
        have htl := word_len hw
        have HW2 : Hid (∀ u ∈ l.take (k + 1), wordB u = true) := by
          show ∀ u ∈ _, _
          rw [HTk.out]
          intro u hu
          rcases List.mem_append.1 hu with hu | hu
          · exact HW.out u hu
          · rw [List.mem_singleton.1 hu]; exact hw
        have hbr : b < wr.heap.size := hb
        clear hw
        go_wp2_with (go_at_call 15; (with_reducible refine (HWo.out _).mono ?_); rintro e W1 ⟨rfl, X1, hX1⟩; have hb1 : Below wr.heap.size wr W1 := (by rw [hX1]; exact (by repeat (first | with_reducible exact Below.refl _ _ | (with_reducible refine Below.alloc ?_ (by first | omega | (simp [go_sem] <;> omega)) _) | (with_reducible refine Below.drew ?_) | (with_reducible refine Below.drewN ?_ _) | (with_reducible refine Below.grow ?_ (by first | omega | (simp [go_sem] <;> omega)) _) | (with_reducible refine Below.setCell ?_ (by first | omega | (simp [go_sem] <;> omega)) _)))); have y0 := (hb1.cell (p := ⟨b, o + k, none⟩) hbr).trans x0; have hbr1 : b < W1.heap.size := Nat.lt_of_lt_of_le hbr hb1.size; clear hX1)
        go_roundw
        case rel => exact ⟨k + 1, sb ++ ⟨#[32]⟩ ++ ts, by omega, by go_num, rfl, by rw [ByteArray.size_append, ByteArray.size_append]; show sb.size + 1 + _ ≤ _; omega, by show _ = _; rw [HSay.out, ← HK.out, ← HTl.out]; simp, HW2.out, below_next HB.out hb1⟩
        case measure => simp [intOf]; omega
    · have hkn : k = n := by omega
      subst hkn
      have htake : l.take k = l := List.take_of_length_le (by rw [HN.out]; omega)
      rw [htake] at HK HW
      have hlne : l ≠ [] := by rintro rfl; have := HN.out; simp at this; omega
      obtain ⟨R, hR⟩ : ∃ R : ByteArray, (⟨(figL d.toNat).toArray⟩ : ByteArray) = R := ⟨_, rfl⟩
      have HFg := Lib.hid (fun W => show Calls Try.prog 16 #[.int .i64 d] W (Ret (.string R) W) from hR ▸ figures_any d W hd9)
      have hfl := (figL_facts d.toNat)
      have hRl : R.data.toList = figL d.toNat := by rw [← hR]
      have htext : (⟨(onceS l d.toNat).toArray⟩ : ByteArray) = sb ++ ⟨#[59, 32]⟩ ++ sb ++ ⟨#[59, 32, 108, 105, 109, 105, 116, 32, 100, 101, 112, 116, 104, 32]⟩ ++ R ++ ⟨#[59]⟩ := by
        refine ba_ext ?_
        simp only [onceS, headS, ByteArray.data_append, Array.toList_append, HK.out, hRl]
        simp [limitT, depthT]
      have hR19 : (figL d.toNat).length ≤ 19 := fig_short (by omega)
      have hRs : R.size ≤ 19 := by rw [← hR]; show (figL d.toNat).toArray.size ≤ _; simpa using hR19
      have hlen : (onceS l d.toNat).length ≤ 8192 := by
        have h1 := congrArg ByteArray.size htext
        simp only [ByteArray.size_append] at h1
        have h2 : (⟨(onceS l d.toNat).toArray⟩ : ByteArray).size = (onceS l d.toNat).length := by show (onceS l d.toNat).toArray.size = _; simp
        have h3 : (⟨#[59, 32]⟩ : ByteArray).size = 2 := rfl
        have h4 : (⟨#[59, 32, 108, 105, 109, 105, 116, 32, 100, 101, 112, 116, 104, 32]⟩ : ByteArray).size = 14 := rfl
        have h5 : (⟨#[59]⟩ : ByteArray).size = 1 := rfl
        omega
      have hop := once_parse HW.out hlne (by rw [HN.out]; omega) d.toNat hlen
      obtain ⟨a, c', P, g⟩ := parse_gen (onceS l d.toNat)
      have HP := Lib.hid (fun W => show Calls Try.prog 14 #[.string (sb ++ ⟨#[59, 32]⟩ ++ sb ++ ⟨#[59, 32, 108, 105, 109, 105, 116, 32, 100, 101, 112, 116, 104, 32]⟩ ++ R ++ ⟨#[59]⟩)] W _ from htext ▸ g.run W)
      have HSays : Hid ((1 ≤ d ∧ d ≤ 256 ∧ c' = 0 ∧ P = onceP2 l d.toNat) ∨ (¬(1 ≤ d ∧ d ≤ 256) ∧ c' = 2)) := by
        show _ ∨ _
        by_cases hr : 1 ≤ d ∧ d ≤ 256
        · rw [if_pos (by omega)] at hop
          rcases g.says with ⟨h1, _, h3⟩ | ⟨_, _, _, h3⟩
          · rw [h3] at hop; cases hop; exact .inl ⟨hr.1, hr.2, h1, rfl⟩
          · rw [h3] at hop; cases hop
        · rw [if_neg (by omega)] at hop
          obtain ⟨a2, hop⟩ := hop
          rcases g.says with ⟨h1, _, h3⟩ | ⟨_, _, _, h3⟩
          · rw [h3] at hop; cases hop
          · rw [h3] at hop; cases hop; exact .inr ⟨hr, rfl⟩
      clear hop g htext hlen hR19 hRl hfl hR htake HK
      go_upto_region 12 with (first | (go_at_call 16; (with_reducible refine (HFg.out _).mono ?_); rintro e W1 ⟨rfl, X1, hX1⟩; have hb1 := below_next HB.out (show Below wr.heap.size wr W1 by rw [hX1]; exact (by repeat (first | with_reducible exact Below.refl _ _ | (with_reducible refine Below.alloc ?_ (by first | omega | (simp [go_sem] <;> omega)) _) | (with_reducible refine Below.drew ?_) | (with_reducible refine Below.drewN ?_ _) | (with_reducible refine Below.grow ?_ (by first | omega | (simp [go_sem] <;> omega)) _) | (with_reducible refine Below.setCell ?_ (by first | omega | (simp [go_sem] <;> omega)) _)))); have HB1 := Lib.hid hb1; clear hX1 hb1) | (go_at_call 14; (with_reducible refine (HP.out _).mono ?_); rintro e W2 ⟨hb2, vp, rfl, hvp⟩; have HB2 := Lib.hid (below_next HB1.out hb2); have HV := Lib.hid hvp; obtain ⟨u0, u1, u2, u3, u4, u5, rfl, ⟨A0, k0, rfl, _⟩, ⟨A1, k1, rfl, _⟩, ⟨A2, k2, rfl, _⟩, ⟨A3, k3, rfl, _⟩, ⟨A4, k4, rfl, _⟩, ⟨A5, k5, rfl, _⟩⟩ := hvp; clear hb2))
      refine name_world fun V hV => ?_
      obtain ⟨B, hB⟩ : ∃ B, W2.heap.size = B := ⟨_, rfl⟩
      have hb3 : Below W2.heap.size W2 V := by rw [hV]; exact (by repeat (first | with_reducible exact Below.refl _ _ | (with_reducible refine Below.alloc ?_ (by first | omega | (simp [go_sem] <;> omega)) _) | (with_reducible refine Below.drew ?_) | (with_reducible refine Below.drewN ?_ _) | (with_reducible refine Below.grow ?_ (by first | omega | (simp [go_sem] <;> omega)) _) | (with_reducible refine Below.setCell ?_ (by first | omega | (simp [go_sem] <;> omega)) _)))
      rw [hB]
      have c0 : V.cell? ⟨B, 0, none⟩ = some (.slice A0 (fN P 0) k0) := by rw [hV, ← hB]; simp [go_sem]
      have c6 : V.cell? ⟨B, 6, none⟩ = some (.bool P.rel) := by rw [hV, ← hB]; simp [go_sem]
      have c7 : V.cell? ⟨B, 7, none⟩ = some (.int .i64 P.depth) := by rw [hV, ← hB]; simp [go_sem]
      have c8 : V.cell? ⟨B, 8, none⟩ = some (.int .i64 P.name) := by rw [hV, ← hB]; simp [go_sem]
      have c9 : V.cell? ⟨B, 9, none⟩ = some (.int .i64 P.value) := by rw [hV, ← hB]; simp [go_sem]
      have hBl : B < V.heap.size := by rw [hV, ← hB]; simp
      have HB3 := Lib.hid (below_next HB2.out hb3)
      obtain ⟨A0', k0', e0', _, hr0, _⟩ : Rx V (fun _ => False) (.slice A0 (fN P 0) k0) (fN P 0) 1 (fC P 0) := by
        obtain ⟨_, _, _, _, _, _, e, h0, _⟩ := (HV.out.below hb3).mono (bad' := fun _ => False) (fun _ _ h => h.elim)
        cases e
        exact h0
      cases e0'
      clear hV hb3 HV HB1 HB2 HFg HP hRs hsb hlt
      rcases HSays.out with ⟨d1, d2, rfl, rfl⟩ | ⟨hr, rfl⟩
      rotate_left
      · by_cases d1 : d < 1
        · go_wp2_with fail
          go_ret
          exact Ret.of rfl HB3.out
        · have d2 : 256 < d := by omega
          go_wp2_with fail
          go_ret
          exact Ret.of rfl HB3.out
      have c0' : V.cell? ⟨B, 0, none⟩ = some (.slice A0 (neatL ltB l).length k0) := c0
      have c6' : V.cell? ⟨B, 6, none⟩ = some (.bool false) := c6
      have c7' : V.cell? ⟨B, 7, none⟩ = some (.int .i64 d) := by rw [c7]; simp only [onceP2]; congr 2; omega
      have c8' : V.cell? ⟨B, 8, none⟩ = some (.int .i64 32) := c8
      have c9' : V.cell? ⟨B, 9, none⟩ = some (.int .i64 1024) := c9
      have HRn : Hid (Rd V (.slice A0 (neatL ltB l).length k0) (neatL ltB l).length 1 ((neatL ltB l).map sv)) := hr0
      have HRise := Lib.hid (neat_rise swoB l)
      have HCnt := Lib.hid (fun t (ht : t ∈ l) => neat_count ht)
      have hml : (neatL ltB l).length ≤ 60 := by have := neat_len ltB l; rw [HN.out] at this; omega
      obtain ⟨N, hNl⟩ : ∃ N, neatL ltB l = N := ⟨_, rfl⟩
      rw [hNl] at c0' HRn HRise HCnt hml
      obtain ⟨m, hm⟩ : ∃ m, N.length = m := ⟨_, rfl⟩
      have HM := Lib.hid hm
      rw [hm] at c0' HRn hml
      clear HSays c0 c6 c7 c8 c9 hr0 hNl hm HW
      go_wp2_with fail
      go_loopw [11] (fun i wq => ∃ j : Nat, j ≤ k ∧ i = .int .i64 (j : Nat) ∧ Hid (Below V.heap.size V wq)) (fun i _ => k - (intOf i).toNat)
      case atStart => exact ⟨0, by omega, rfl, by show Below _ _ _; exact (by repeat (first | with_reducible exact Below.refl _ _ | (with_reducible refine Below.alloc ?_ (by first | omega | (simp [go_sem] <;> omega)) _) | (with_reducible refine Below.drew ?_) | (with_reducible refine Below.drewN ?_ _) | (with_reducible refine Below.grow ?_ (by first | omega | (simp [go_sem] <;> omega)) _) | (with_reducible refine Below.setCell ?_ (by first | omega | (simp [go_sem] <;> omega)) _)))⟩
      case round =>
        obtain ⟨j, hj, rfl, HBj⟩ := hrel
        by_cases hjlt : j < k
        rotate_left
        · go_wp2_with fail
          go_ret
          exact Ret.of rfl (HB3.out.trans (HBj.out.mono HB3.out.size))
        have hjl : j < l.length := by rw [HN.out]; exact hjlt
        obtain ⟨t, hx⟩ : ∃ t, l[j] = t := ⟨_, rfl⟩
        have hcnt := HCnt.out t (by rw [← hx]; exact List.getElem_mem hjl)
        have HCt := Lib.hid hcnt
        have HRj := Lib.hid (fun W (hb : Below V.heap.size V W) => show ∃ b o, A = some ⟨b, o, none⟩ ∧ b < W.heap.size ∧ W.cell? ⟨b, o + j, none⟩ = some (.string ⟨t.toArray⟩) from by
          have hr9 : Rd W (.slice A l.length c) l.length 1 (l.map sv) := by rw [HN.out]; exact HR.out.belowX (HB3.out.trans (hb.mono HB3.out.size))
          obtain ⟨b, o, e, hb, x0⟩ := Rd.atS hr9 j t (by rw [← hx]; exact List.getElem?_eq_getElem hjl)
          exact ⟨b, o, e, hb, x0⟩)
        obtain ⟨bt, ot, rfl, _, _⟩ := HRj.out V (Below.refl _ _)
        clear hx hcnt
        go_wp2_with fail
        go_loopw [12, 13] (fun nv i wq2 => ∃ (q : Nat), q ≤ m ∧ i = .int .i64 (q : Nat) ∧ nv = .int .i64 ((N.take q).count t : Nat) ∧ Hid (Below V.heap.size V wq2)) (fun _ i _ => m - (intOf i).toNat)
        case atStart => exact ⟨0, by omega, rfl, by simp, HBj.out⟩
        case round =>
          clear HBj
          obtain ⟨q, hq, rfl, rfl, HBq⟩ := hrel
          have d0 := (HBq.out.cell (p := ⟨B, 0, none⟩) hBl).trans c0'
          by_cases hqlt : q < m
          · have hql : q < N.length := by rw [HM.out]; exact hqlt
            obtain ⟨x, hxq⟩ : ∃ x, N[q] = x := ⟨_, rfl⟩
            have hr9 : Rd wr (.slice A0 N.length k0) N.length 1 (N.map sv) := by rw [HM.out]; exact HRn.out.belowX HBq.out
            obtain ⟨bn, on, e9, hbn, x0⟩ := Rd.atS hr9 q x (by rw [← hxq]; exact List.getElem?_eq_getElem hql)
            subst e9
            obtain ⟨bt2, ot2, e8, hbt, t0⟩ := HRj.out wr HBq.out
            cases e8
            simp only [sv] at x0
            have hcm : (N.take q).count t ≤ q := Nat.le_trans List.count_le_length (by rw [List.length_take]; omega)
            have HCn : Hid ((N.take (q + 1)).count t = (N.take q).count t + if x = t then 1 else 0) := by show _ = _; rw [count_take hql, hxq]
            have hBq : B < wr.heap.size := Nat.lt_of_lt_of_le hBl HBq.out.size
            have heq : ((⟨x.toArray⟩ : ByteArray).toList == (⟨t.toArray⟩ : ByteArray).toList) = decide (x = t) := by rw [ba_bq]
            have i1 : ¬ (m : Int) ≤ q := by omega
            have HBn := Lib.hid (fun W (hb : Below wr.heap.size wr W) => show Below V.heap.size V W from HBq.out.trans (hb.mono HBq.out.size))
            by_cases hq0 : q = 0
            · subst hq0
              have x00 : wr.cell? ⟨bn, on, none⟩ = some (.string ⟨x.toArray⟩) := x0
              clear x0
              generalize (⟨x.toArray⟩ : ByteArray) = xs at *
              generalize (⟨t.toArray⟩ : ByteArray) = ts at *
              by_cases hxt : x = t
              · rw [decide_eq_true hxt] at heq
                rw [if_pos hxt] at HCn
                clear hxt
                go_upto_region 23 with fail
                go_region
                go_wp2_with fail
                go_upto_region 25 with fail
                go_region
                go_wp2_with fail
                go_roundw
                case rel => exact ⟨0 + 1, by omega, by go_num, by rw [HCn.out]; simp, HBn.out _ (by repeat (first | with_reducible exact Below.refl _ _ | (with_reducible refine Below.alloc ?_ (by first | omega | (simp [go_sem] <;> omega)) _) | (with_reducible refine Below.drew ?_) | (with_reducible refine Below.drewN ?_ _) | (with_reducible refine Below.grow ?_ (by first | omega | (simp [go_sem] <;> omega)) _) | (with_reducible refine Below.setCell ?_ (by first | omega | (simp [go_sem] <;> omega)) _)))⟩
                case measure => simp [intOf]; omega
              · rw [decide_eq_false hxt] at heq
                rw [if_neg hxt] at HCn
                clear hxt
                go_upto_region 23 with fail
                go_region
                go_wp2_with fail
                go_upto_region 25 with fail
                go_region
                go_wp2_with fail
                go_roundw
                case rel => exact ⟨0 + 1, by omega, by go_num, by rw [HCn.out]; simp, HBn.out _ (by repeat (first | with_reducible exact Below.refl _ _ | (with_reducible refine Below.alloc ?_ (by first | omega | (simp [go_sem] <;> omega)) _) | (with_reducible refine Below.drew ?_) | (with_reducible refine Below.drewN ?_ _) | (with_reducible refine Below.grow ?_ (by first | omega | (simp [go_sem] <;> omega)) _) | (with_reducible refine Below.setCell ?_ (by first | omega | (simp [go_sem] <;> omega)) _)))⟩
                case measure => simp [intOf]; omega
            · obtain ⟨q', hq1⟩ : ∃ q', q = q' + 1 := ⟨q - 1, by omega⟩
              have hgt : 0 < q := by omega
              have hql2 : q' < N.length := by omega
              obtain ⟨y, hyq⟩ : ∃ y, N[q'] = y := ⟨_, rfl⟩
              obtain ⟨bn2, on2, e9, _, y0⟩ := Rd.atS hr9 q' y (by rw [← hyq]; exact List.getElem?_eq_getElem hql2)
              cases e9
              simp only [sv] at y0
              have hyx : ltB y x = true := by rw [← hyq, ← hxq]; exact List.pairwise_iff_getElem.1 HRise.out q' q hql2 hql (by omega)
              have hxy : ltB x y = false := ltB_asymm _ _ hyx
              have hne2 : ¬ x = y := by
                intro e
                rw [e, ltB_irrefl] at hyx
                cases hyx
              have hle : Op.bytesLess (⟨x.toArray⟩ : ByteArray).toList (⟨y.toArray⟩ : ByteArray).toList = false ∧ ¬ (⟨x.toArray⟩ : ByteArray).toList = (⟨y.toArray⟩ : ByteArray).toList := by
                rw [ByteArray.toList_eq, ByteArray.toList_eq]
                exact ⟨(bytes_less x y).trans hxy, hne2⟩
              have hidx : (q : Int) - 1 = (q' : Int) := by omega
              have iq : ¬ (m : Int) ≤ q' := by omega
              have HQ1 := Lib.hid hq1
              clear hyq hxq hr9 hyx hq1 hxy hne2
              generalize (⟨x.toArray⟩ : ByteArray) = xs at *
              generalize (⟨y.toArray⟩ : ByteArray) = ys at *
              generalize (⟨t.toArray⟩ : ByteArray) = ts at *
              by_cases hxt : x = t
              · rw [decide_eq_true hxt] at heq
                rw [if_pos hxt] at HCn
                clear hxt
                go_upto_region 23 with fail
                go_region
                go_wp2_with fail
                go_upto_region 25 with fail
                refine wp_region_row 15 [(0, true), (1, true), (2, true), (3, true), (4, true), (5, true), (6, true), (7, true), (8, true), (9, true), (10, true), (11, true), (12, true), (13, true), (14, true)] (fun V => V.cell? ⟨B, 0, none⟩ = some (.slice (some ⟨bn, on, none⟩) m k0) ∧ V.cell? ⟨bn, on + q, none⟩ = some (.string xs) ∧ V.cell? ⟨bn, on + q', none⟩ = some (.string ys)) hmx (by kernel_rfl) (by kernel_rfl) (by kernel_rfl) (by decide) rfl (fun c a d v w h => by obtain ⟨x, y⟩ := (h : _ ∧ _); cases d <;> exact ⟨x, y⟩) (by kernel_rfl) (by exact ⟨d0, x0, y0⟩) ?_
                refine wpRow_readD (v := .int .i64 q) 116 rfl rfl rfl (fun W hW => by simp [execOp, go_sem]) ?_
                simp only [Act.put, List.setIfInBounds_toArray, List.set_cons_succ, List.set_cons_zero]
                refine wpRow_readD (v := .bool true) 117 rfl rfl rfl (fun W hW => by simp [execOp, go_sem]; omega) ?_
                simp only [Act.put, List.setIfInBounds_toArray, List.set_cons_succ, List.set_cons_zero]
                refine wpRow_readD (v := .bool true) 118 rfl rfl rfl (fun W hW => by simp [execOp, go_sem]) ?_
                simp only [Act.put, List.setIfInBounds_toArray, List.set_cons_succ, List.set_cons_zero]
                refine wpRow_readD (v := .pointer (some ⟨B, 0, none⟩)) 119 rfl rfl rfl (fun W hW => by simp [execOp, go_sem]) ?_
                simp only [Act.put, List.setIfInBounds_toArray, List.set_cons_succ, List.set_cons_zero]
                refine wpRow_readD (v := .slice (some ⟨bn, on, none⟩) m k0) 120 rfl rfl rfl (fun W hW => by simp [execOp, go_sem, hW.1]) ?_
                simp only [Act.put, List.setIfInBounds_toArray, List.set_cons_succ, List.set_cons_zero]
                refine wpRow_readD (v := .int .i64 q) 121 rfl rfl rfl (fun W hW => by simp [execOp, go_sem]) ?_
                simp only [Act.put, List.setIfInBounds_toArray, List.set_cons_succ, List.set_cons_zero]
                refine wpRow_readD (v := .pointer (some ⟨bn, on + q, none⟩)) 122 rfl rfl rfl (fun W hW => by simp [execOp, go_sem, i1]) ?_
                simp only [Act.put, List.setIfInBounds_toArray, List.set_cons_succ, List.set_cons_zero]
                refine wpRow_readD (v := .string xs) 123 rfl rfl rfl (fun W hW => by simp [execOp, go_sem, hW.2.1]) ?_
                simp only [Act.put, List.setIfInBounds_toArray, List.set_cons_succ, List.set_cons_zero]
                refine wpRow_readD (v := .pointer (some ⟨B, 0, none⟩)) 124 rfl rfl rfl (fun W hW => by simp [execOp, go_sem]) ?_
                simp only [Act.put, List.setIfInBounds_toArray, List.set_cons_succ, List.set_cons_zero]
                refine wpRow_readD (v := .slice (some ⟨bn, on, none⟩) m k0) 125 rfl rfl rfl (fun W hW => by simp [execOp, go_sem, hW.1]) ?_
                simp only [Act.put, List.setIfInBounds_toArray, List.set_cons_succ, List.set_cons_zero]
                refine wpRow_readD (v := .int .i64 q) 126 rfl rfl rfl (fun W hW => by simp [execOp, go_sem]) ?_
                simp only [Act.put, List.setIfInBounds_toArray, List.set_cons_succ, List.set_cons_zero]
                refine wpRow_readD (v := .int .i64 q') 127 rfl rfl rfl (fun W hW => by simp [execOp, go_sem, hidx]; exact IntWalk.i64_in _ (by omega)) ?_
                simp only [Act.put, List.setIfInBounds_toArray, List.set_cons_succ, List.set_cons_zero]
                refine wpRow_readD (v := .pointer (some ⟨bn, on + q', none⟩)) 128 rfl rfl rfl (fun W hW => by simp [execOp, go_sem, iq]) ?_
                simp only [Act.put, List.setIfInBounds_toArray, List.set_cons_succ, List.set_cons_zero]
                refine wpRow_readD (v := .string ys) 129 rfl rfl rfl (fun W hW => by simp [execOp, go_sem, hW.2.2]) ?_
                simp only [Act.put, List.setIfInBounds_toArray, List.set_cons_succ, List.set_cons_zero]
                refine wpRow_readD (v := .bool false) 130 rfl rfl rfl (fun W hW => by simp [execOp, go_sem]; exact hle) ?_
                simp only [Act.put, List.setIfInBounds_toArray, List.set_cons_succ, List.set_cons_zero]
                dsimp only [wpRow, List.drop]
                go_wp2_with fail
                go_roundw
                case rel => exact ⟨q + 1, by omega, by go_num, by rw [HCn.out]; simp, HBn.out _ (by repeat (first | with_reducible exact Below.refl _ _ | (with_reducible refine Below.alloc ?_ (by first | omega | (simp [go_sem] <;> omega)) _) | (with_reducible refine Below.drew ?_) | (with_reducible refine Below.drewN ?_ _) | (with_reducible refine Below.grow ?_ (by first | omega | (simp [go_sem] <;> omega)) _) | (with_reducible refine Below.setCell ?_ (by first | omega | (simp [go_sem] <;> omega)) _)))⟩
                case measure => simp [intOf]; omega
              · rw [decide_eq_false hxt] at heq
                rw [if_neg hxt] at HCn
                clear hxt
                go_upto_region 23 with fail
                go_region
                go_wp2_with fail
                go_upto_region 25 with fail
                refine wp_region_row 15 [(0, true), (1, true), (2, true), (3, true), (4, true), (5, true), (6, true), (7, true), (8, true), (9, true), (10, true), (11, true), (12, true), (13, true), (14, true)] (fun V => V.cell? ⟨B, 0, none⟩ = some (.slice (some ⟨bn, on, none⟩) m k0) ∧ V.cell? ⟨bn, on + q, none⟩ = some (.string xs) ∧ V.cell? ⟨bn, on + q', none⟩ = some (.string ys)) hmx (by kernel_rfl) (by kernel_rfl) (by kernel_rfl) (by decide) rfl (fun c a d v w h => by obtain ⟨x, y⟩ := (h : _ ∧ _); cases d <;> exact ⟨x, y⟩) (by kernel_rfl) (by exact ⟨d0, x0, y0⟩) ?_
                refine wpRow_readD (v := .int .i64 q) 116 rfl rfl rfl (fun W hW => by simp [execOp, go_sem]) ?_
                simp only [Act.put, List.setIfInBounds_toArray, List.set_cons_succ, List.set_cons_zero]
                refine wpRow_readD (v := .bool true) 117 rfl rfl rfl (fun W hW => by simp [execOp, go_sem]; omega) ?_
                simp only [Act.put, List.setIfInBounds_toArray, List.set_cons_succ, List.set_cons_zero]
                refine wpRow_readD (v := .bool true) 118 rfl rfl rfl (fun W hW => by simp [execOp, go_sem]) ?_
                simp only [Act.put, List.setIfInBounds_toArray, List.set_cons_succ, List.set_cons_zero]
                refine wpRow_readD (v := .pointer (some ⟨B, 0, none⟩)) 119 rfl rfl rfl (fun W hW => by simp [execOp, go_sem]) ?_
                simp only [Act.put, List.setIfInBounds_toArray, List.set_cons_succ, List.set_cons_zero]
                refine wpRow_readD (v := .slice (some ⟨bn, on, none⟩) m k0) 120 rfl rfl rfl (fun W hW => by simp [execOp, go_sem, hW.1]) ?_
                simp only [Act.put, List.setIfInBounds_toArray, List.set_cons_succ, List.set_cons_zero]
                refine wpRow_readD (v := .int .i64 q) 121 rfl rfl rfl (fun W hW => by simp [execOp, go_sem]) ?_
                simp only [Act.put, List.setIfInBounds_toArray, List.set_cons_succ, List.set_cons_zero]
                refine wpRow_readD (v := .pointer (some ⟨bn, on + q, none⟩)) 122 rfl rfl rfl (fun W hW => by simp [execOp, go_sem, i1]) ?_
                simp only [Act.put, List.setIfInBounds_toArray, List.set_cons_succ, List.set_cons_zero]
                refine wpRow_readD (v := .string xs) 123 rfl rfl rfl (fun W hW => by simp [execOp, go_sem, hW.2.1]) ?_
                simp only [Act.put, List.setIfInBounds_toArray, List.set_cons_succ, List.set_cons_zero]
                refine wpRow_readD (v := .pointer (some ⟨B, 0, none⟩)) 124 rfl rfl rfl (fun W hW => by simp [execOp, go_sem]) ?_
                simp only [Act.put, List.setIfInBounds_toArray, List.set_cons_succ, List.set_cons_zero]
                refine wpRow_readD (v := .slice (some ⟨bn, on, none⟩) m k0) 125 rfl rfl rfl (fun W hW => by simp [execOp, go_sem, hW.1]) ?_
                simp only [Act.put, List.setIfInBounds_toArray, List.set_cons_succ, List.set_cons_zero]
                refine wpRow_readD (v := .int .i64 q) 126 rfl rfl rfl (fun W hW => by simp [execOp, go_sem]) ?_
                simp only [Act.put, List.setIfInBounds_toArray, List.set_cons_succ, List.set_cons_zero]
                refine wpRow_readD (v := .int .i64 q') 127 rfl rfl rfl (fun W hW => by simp [execOp, go_sem, hidx]; exact IntWalk.i64_in _ (by omega)) ?_
                simp only [Act.put, List.setIfInBounds_toArray, List.set_cons_succ, List.set_cons_zero]
                refine wpRow_readD (v := .pointer (some ⟨bn, on + q', none⟩)) 128 rfl rfl rfl (fun W hW => by simp [execOp, go_sem, iq]) ?_
                simp only [Act.put, List.setIfInBounds_toArray, List.set_cons_succ, List.set_cons_zero]
                refine wpRow_readD (v := .string ys) 129 rfl rfl rfl (fun W hW => by simp [execOp, go_sem, hW.2.2]) ?_
                simp only [Act.put, List.setIfInBounds_toArray, List.set_cons_succ, List.set_cons_zero]
                refine wpRow_readD (v := .bool false) 130 rfl rfl rfl (fun W hW => by simp [execOp, go_sem]; exact hle) ?_
                simp only [Act.put, List.setIfInBounds_toArray, List.set_cons_succ, List.set_cons_zero]
                dsimp only [wpRow, List.drop]
                go_wp2_with fail
                go_roundw
                case rel => exact ⟨q + 1, by omega, by go_num, by rw [HCn.out]; simp, HBn.out _ (by repeat (first | with_reducible exact Below.refl _ _ | (with_reducible refine Below.alloc ?_ (by first | omega | (simp [go_sem] <;> omega)) _) | (with_reducible refine Below.drew ?_) | (with_reducible refine Below.drewN ?_ _) | (with_reducible refine Below.grow ?_ (by first | omega | (simp [go_sem] <;> omega)) _) | (with_reducible refine Below.setCell ?_ (by first | omega | (simp [go_sem] <;> omega)) _)))⟩
                case measure => simp [intOf]; omega
          · have hqm : q = m := by omega
            have hc1 : (N.take q).count t = 1 := by rw [List.take_of_length_le (by rw [HM.out]; omega)]; exact HCt.out
            rw [hc1]
            clear hqm hc1
            go_wp2_with fail
            go_roundw
            case rel => exact ⟨j + 1, by omega, by go_num, HBq.out⟩
            case measure => simp [intOf]; omega

set_option maxRecDepth 100000 in
theorem lifted (os : Os) (started : os.Started) (H : Type) (enc : TypeId × Value → H) :
    ReturnsInHanded {} Try.checked os 6 .any (Rows.policyOnceSpec.pre6 enc Try.prog Try.f6 Rows.policyOnceRow.domain false) (Rows.policyOnceSpec.post enc Try.prog Try.f6 false true false false) := by
  refine returnsInHanded_of_change (C := Try.checked) own started (by kernel_rfl) Try.func6
    (ChangeSpec.witness6 (enc := enc) (C := Try.checked) false ⟨#[], #[.slice none 0 0, .int .i64 0], []⟩ 8 (by kernel_rfl) (by kernel_rfl) (by kernel_rfl) (by kernel_rfl)) ?_
  intro W base args ds gs before hval0 hW hcnd _
  have hval : ∀ (j : Nat) t v, Try.f6.params[j]? = some t → args[j]? = some v → Value.okWide Try.prog W .any base t v := hval0
  have hW' := hW
  obtain ⟨p, q, hA0, hV, rfl, hfz, hnd⟩ := hW
  have hA : DataW.TrodAll enc Try.prog W 0 (fun _ => true) true Try.f6.params.toList args.toList ds p := hA0
  rw [Try.params6] at hA hval
  obtain ⟨v0, vs0, d0, ds0, p0, q0, hargs, rfl, rfl, h0, r0⟩ := trodAll_cons hA
  obtain ⟨v1, vs1, d1, ds1, p1, q1, rfl, rfl, rfl, h1, r1⟩ := trodAll_cons r0
  obtain ⟨rfl, rfl, rfl⟩ := trodAll_nil r1
  obtain rfl : args = #[v0, v1] := by cases args; simp_all
  obtain ⟨rfl, rfl⟩ := trodVars_none hV
  obtain ⟨a0, len0, cap0, rfl⟩ := okWide_slice Try.underlying22 (hval 0 22 v0 rfl rfl)
  have k0 := h0
  have lt0 : ∀ x ∈ p0, x.block < W.heap.size := by obtain ⟨m, hm⟩ := k0; exact DataW.trod_lt m _ _ _ hm
  obtain ⟨z0, w0⟩ : ∃ l : List Bs, Rx W (fun _ => False) (.slice a0 len0 cap0) l.length 1 (l.map sv) ∧ ∀ t ∈ l, t.length ≤ maxLen := by obtain ⟨fuel, hf⟩ := h0; exact strs_max (by simpa [Value.cells] using hf)
  obtain ⟨a1, rfl, rfl, rfl, w1⟩ := open_int Try.underlying3 (hval 1 3 v1 rfl rfl) h1
  clear hA0 hval0
  refine (walk (.slice a0 len0 cap0) z0 a1 W w0 w1).mono fun e W' hend => ?_
  obtain ⟨he, X, hX⟩ := hend
  have bel : Below W.heap.size W W' := by rw [hX]; exact below_grow W X
  subst he
  exact ⟨_, rfl, _, _, _, [], _, [], hW', trodAll_mk1 (shut_bool Try.underlying4 _), (trodAll_cons_mk (Below.trod laidOut (by kernel_rfl) (of_decide_eq_true (by kernel_rfl)) k0 bel lt0) (trodAll_cons_mk (shut_int Try.underlying3 w1) trodAll_mk0)), rfl, bel.frame _, fun h => by cases h⟩

theorem over : Rows.policyOnceRow.holds Try.pinned (OpenSpec.ofChange Rows.policyOnceSpec) :=
  OpenClaim.holds_of_wide 6 Try.f6 rfl rfl rfl rfl rfl rfl rfl ⟨rfl, rfl, rfl, rfl, rfl⟩ rfl rfl rfl rfl rfl (by kernel_rfl) Try.func6 (by kernel_rfl)
    (of_decide_eq_true (by kernel_rfl)) (by unfold Func.isWrapper; rw [if_neg (of_decide_eq_false (by kernel_rfl))]; exact ⟨rfl, rfl⟩)
    (fun os started H enc _ => lifted os started H enc)

/-- The statement. -/
theorem proved : Rows.PolicyOnceSaid := over

end Go.Proofs.Ytenjnliceeejlaa.policyOnce
