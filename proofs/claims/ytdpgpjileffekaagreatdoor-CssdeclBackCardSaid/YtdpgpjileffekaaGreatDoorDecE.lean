/- The walks of declarations: the iterator of the parts. -/
import Derived.Test.YtdpgpjileffekaaGreatDoorDecD
namespace Go.Proofs.YtdpgpjileffekaaGreatDoor
open Go.RowKit Go.Shelf
attribute [local go_sem] Oper.semAt_some
set_option maxRecDepth 100000 in
set_option maxHeartbeats 8000000 in
theorem parts2_iter (db lb eb : Nat) (bw : Nat → Prop) (A : Option Addr) (c : Nat) (l : List Css) (W : World) (hd : ∃ v, Boxed W db 3 v) (hl : Boxed W lb 29 (.slice A l.length c)) (he : Boxed W eb 51 (.func (.func 35) #[] #[.pointer (some ⟨db, 0, none⟩)]))
    (h1 : db ≠ lb) (h2 : eb ≠ db) (h3 : eb ≠ lb) (hbd : ¬ bw db) (hbl : ¬ bw lb) (hbe : ¬ bw eb) (hr : Rd W (.slice A l.length c) l.length 4 (cssCells l)) (hA : ∀ b off s, A = some ⟨b, off, s⟩ → s = none ∧ b ≠ db ∧ b ≠ lb ∧ ¬ bw b) (hA0 : A = none → l = [])
    (hc : l.length ≤ c) (hp : ∀ x ∈ l, Proper x) (hn : l.length ≤ 1000000000) :
    IterAt Tryz.prog 37 #[.pointer (some ⟨db, 0, none⟩), .pointer (some ⟨lb, 0, none⟩), .pointer (some ⟨eb, 0, none⟩)] (fun x : Value × List Css => #[x.1]) (fun k => k = db ∨ k = lb) bw (partsV A c (partsL 0 l)) W := by
  intro ll J Jx hJ hY h0
  refine callsIn_of_wp Tryz.func37 rfl trivial ?_ rfl
  simp only [Tryz.ntmps37, List.size_toArray, List.length_cons, List.length_nil, Nat.reduceAdd, Nat.reduceSub, Array.replicate_succ, Array.replicate_zero, List.push_toArray, List.append_toArray, List.nil_append, List.cons_append]
  obtain ⟨xs, hxs⟩ : ∃ xs, partsV A c (partsL 0 l) = xs := ⟨_, rfl⟩
  have HXS := Lib.hid hxs
  rw [hxs] at hY ⊢
  clear hxs
  gi_wp2_with fail
  gi_loopw [5] (fun _ wr => ∃ (A' : Option Addr) (c' : Nat) (l' : List Css) (pre : List (Value × List Css)), l'.length ≤ l.length ∧ (∃ v, Boxed wr db 3 v) ∧ Boxed wr lb 29 (.slice A' l'.length c') ∧ Boxed wr eb 51 (.func (.func 35) #[] #[.pointer (some ⟨db, 0, none⟩)]) ∧
      Rd wr (.slice A' l'.length c') l'.length 4 (cssCells l') ∧ Hid (∀ b off s, A' = some ⟨b, off, s⟩ → s = none ∧ b ≠ db ∧ b ≠ lb ∧ ¬ bw b) ∧ Hid (A' = none → l' = []) ∧ l'.length ≤ c' ∧ Hid (∀ x ∈ l', Proper x) ∧ Hid (J pre wr) ∧ Hid (pre ++ partsV A' c' (partsL 0 l') = xs)) (fun _ wr => lenSl wr lb)
  case atStart =>
    exact ⟨A, c, l, [], Nat.le_refl _, hd, hl, he, hr, hA, hA0, hc, hp, h0, HXS.out⟩
  case round =>
    clear hd hl he hr hA hA0 hc hp h0
    obtain ⟨A', c', l', pre, hle, ⟨v0, hd⟩, hl, he, hr, HA, HA0, hc, HP, HJ, HK⟩ := hrel
    have f1 := hd.frozen
    have g1 := hd.cell
    have g3 := hl.cell
    have g4 := hl.frozen
    have g5 := he.cell
    have hlt1 := hd.lt
    have hlt2 := hl.lt
    have hlt3 := he.lt
    have hd2 : Boxed (wr.setCell ⟨db, 0, none⟩ (.int .i64 0)) db 3 (.int .i64 0) := hd.set _
    have ht1 : Turned (fun k => k = db) wr (wr.setCell ⟨db, 0, none⟩ (.int .i64 0)) := Turned.setCell (pv := fun k => k = db) (Turned.refl _ _) (Or.inr rfl) _
    have hAd : ∀ b off s, A' = some ⟨b, off, s⟩ → ¬ (b = db) := fun b off s h => (HA.out b off s h).2.1
    have HI := Lib.hid (index_parts A' l'.length c' l' db _ hd2 (hr.turned ht1 hAd) hAd HP.out (by omega))
    have hl2 := ht1.boxed hl (fun h => h1 h.symm)
    have he2 := ht1.boxed he (fun h => h2 h)
    have hr2 := hr.turned ht1 hAd
    have hc3 := hl2.cell
    have hc5 := he2.cell
    have HJ1 : Hid (J pre (wr.setCell ⟨db, 0, none⟩ (.int .i64 0))) := hJ _ _ _ HJ.out (ht1.mono fun k hk => .inl hk)
    have hsz : wr.heap.size ≤ (wr.setCell ⟨db, 0, none⟩ (.int .i64 0)).heap.size := ht1.size
    have hcp := cut_parts l' 0
    cases hcut : cutN 0 l' with
    | none =>
      rw [hcut] at hcp
      have HCI : Hid (cutI l' = -1) := by show _ = _; unfold cutI; rw [hcut]
      rw [HCI.out] at HI
      have HX : Hid (pre ++ [(.slice A' l'.length c', l')] = xs) := by show _ = _; rw [← HK.out, hcp]; rfl
      have HI2 := Lib.hid HI.out
      clear HI hcp hcut HK HCI
      have HL2 := Lib.hid hl2
      have HE2 := Lib.hid he2
      clear hl2 he2 hr2 hr hl he hd hd2 ht1 hAd hc3 hc5
      gi_wp2_with (gi_at_call 38; (with_reducible refine (callsIn_wide.2 HI2.out).mono ?_); rintro e W2 ⟨rfl, ht2, e', hb2⟩; have HL3 := Lib.hid (ht2.boxed HL2.out (fun h => h1 h.symm)); have HE3 := Lib.hid (ht2.boxed HE2.out (fun h => h2 h)); have r3 := HL3.out.cell; have HJ2 := Lib.hid (hJ _ _ _ HJ1.out (ht2.mono fun k hk => .inl hk)))
      refine upon_yield (hY pre (.slice A' l'.length c', l') _ ⟨[], by rw [List.append_nil]; exact HX.out⟩ HJ2.out) rfl ?_
      rintro e W3 (⟨rfl, hJ3, ht3⟩ | ⟨rfl, hJx⟩)
      · refine ⟨_, rfl, ?_⟩
        gi_wp2_with fail
        refine bodyPost_ret (results_none rfl _ _ _) rfl ?_
        rw [HX.out] at hJ3
        exact ⟨⟨_, rfl⟩, .inl hJ3⟩
      · refine ⟨_, rfl, ?_⟩
        gi_wp2_with fail
        refine bodyPost_ret (results_none rfl _ _ _) rfl ?_
        exact ⟨⟨_, rfl⟩, .inr ⟨pre, _, ⟨[], by rw [List.append_nil]; exact HX.out⟩, hJx⟩⟩
    | some k =>
      rw [hcut] at hcp
      obtain ⟨hkl, hpart⟩ := hcp
      have HCI : Hid (cutI l' = (k : Nat)) := by show _ = _; unfold cutI; rw [hcut]
      rw [HCI.out] at HI
      obtain ⟨b, off, hAb⟩ : ∃ b off, A' = some ⟨b, off, none⟩ := by
        cases A' with
        | none => have := HA0.out rfl; rw [this] at hkl; simp at hkl
        | some ad =>
          obtain ⟨ab, ao, asp⟩ := ad
          obtain ⟨rfl, _⟩ := HA.out ab ao asp rfl
          exact ⟨ab, ao, rfl⟩
      subst hAb
      obtain ⟨_, hbdb, hblb, hbbw⟩ := HA.out b off none rfl
      have htk : (l'.take k).length = k := by rw [List.length_take]; omega
      have hdk : (l'.drop (k + 1)).length = l'.length - (k + 1) := by rw [List.length_drop]
      have HX : Hid (pre ++ [(.slice (some ⟨b, off, none⟩) k c', l'.take k)] ++ partsV (adv (some ⟨b, off, none⟩) c' (k + 1)) (c' - (k + 1)) (partsL 0 (l'.drop (k + 1))) = xs) := by
        show _ = _
        rw [← HK.out, hpart, partsV, htk, List.append_assoc]; rfl
      have HI2 := Lib.hid HI.out
      have hr4 := Rd.drop4 hr (k + 1) (by omega)
      obtain ⟨Av, hAv⟩ : ∃ Av, (if c' = k + 1 then some (⟨b, off, none⟩ : Addr) else some ⟨b, off + (k + 1) * 4, none⟩) = Av := ⟨_, rfl⟩
      have HAv : Hid (adv (some ⟨b, off, none⟩) c' (k + 1) = Av) := by show _ = _; rw [← hAv]; rfl
      rw [HAv.out] at HX
      have HAv2 : Hid (∀ b' off' s, Av = some ⟨b', off', s⟩ → s = none ∧ b' = b) := fun b' off' s h => by
        rw [← hAv] at h
        split at h <;> (cases h; exact ⟨rfl, rfl⟩)
      have HAv3 : Hid (Av ≠ none) := by
        show _ ≠ _
        rw [← hAv]; split <;> simp
      have hr5 : Rd wr (.slice Av (l'.drop (k + 1)).length (c' - (k + 1))) (l'.drop (k + 1)).length 4 (cssCells (l'.drop (k + 1))) := by
        by_cases hck : c' = k + 1
        · refine ⟨flat_len Css.cells 4 (fun _ => rfl) _, by rw [hdk]; have := hr.2.1; omega, _, _, rfl, fun hn0 => ?_⟩
          rw [hdk] at hn0; omega
        · rw [if_neg hck] at hAv
          rw [← hAv]; exact hr4
      rw [hdk] at hr5
      have HR4 := Lib.hid hr5
      clear hr5
      have HDK := Lib.hid hdk
      have HP4 : Hid (∀ x ∈ l'.drop (k + 1), Proper x) := fun x hx => HP.out x (List.mem_of_mem_drop hx)
      have HL2 := Lib.hid hl2
      have HE2 := Lib.hid he2
      have HT1 := Lib.hid ht1
      have HLw := Lib.hid hl
      clear hl2 he2 hr2 hr hl he hd hd2 ht1 hAd hc3 hc5 hr4 HI hcut hpart HK HCI hdk
      have hkc : k ≤ c' := by omega
      have hk1 : k + 1 ≤ l'.length := by omega
      have hk2 : k + 1 ≤ c' := by omega
      generalize hln : l'.length = nn at *
      have hnn9 : nn ≤ 1000000000 := by omega
      gi_wp2_with (gi_at_call 38; (with_reducible refine (callsIn_wide.2 HI2.out).mono ?_); rintro e W2 ⟨rfl, ht2, e', hb2⟩; have HL3 := Lib.hid (ht2.boxed HL2.out (fun h => h1 h.symm)); have HE3 := Lib.hid (ht2.boxed HE2.out (fun h => h2 h)); have r3 := HL3.out.cell; have HJ2 := Lib.hid (hJ _ _ _ HJ1.out (ht2.mono fun k hk => .inl hk)); have HB2 := Lib.hid hb2; have HT2 := Lib.hid ht2; clear hb2 ht2)
      refine upon_yield (hY pre (.slice (some ⟨b, off, none⟩) k c', l'.take k) _ ⟨_, HX.out⟩ HJ2.out) rfl ?_
      rintro e W3 (⟨rfl, hJ3, ht3⟩ | ⟨rfl, hJx⟩)
      · refine ⟨_, rfl, ?_⟩
        have HL4 := Lib.hid (ht3.boxed HL3.out hbl)
        have HE4 := Lib.hid (ht3.boxed HE3.out hbe)
        have HB4 := Lib.hid (ht3.boxed HB2.out hbd)
        have s3 := HL4.out.cell
        have s4 := HL4.out.frozen
        have slt := HL4.out.lt
        have HT3 := Lib.hid ht3
        have HJ3 := Lib.hid hJ3
        clear hJ3 ht3 r3 g1 g3 g4 g5 f1
        gi_wp2_with fail
        go_roundw
        case rel =>
          have hTl : Turned (fun k => k = lb) W3 (W3.setCell ⟨lb, 0, none⟩ (.slice Av (nn - (k + 1)) (c' - (k + 1)))) := Turned.setCell (pv := fun k => k = lb) (Turned.refl _ _) (Or.inr rfl) _
          refine ⟨Av, c' - (k + 1), l'.drop (k + 1), _, by rw [HDK.out]; omega, ⟨_, hTl.boxed HB4.out h1⟩, by rw [HDK.out]; exact HL4.out.set _, hTl.boxed HE4.out h3, ?_, ?_, fun h => absurd h HAv3.out, by rw [HDK.out]; omega, HP4.out, hJ _ _ _ HJ3.out (hTl.mono fun k hk => .inr hk), HX.out⟩
          · rw [HDK.out]
            refine Rd.turned (pv := fun k => k = lb) (Rd.turned (pv := bw) (Rd.turned (pv := fun k => k = db) (Rd.turned (pv := fun k => k = db) HR4.out HT1.out ?_) HT2.out ?_) HT3.out ?_) hTl ?_
            all_goals (intro b' off' s h; obtain ⟨rfl, rfl⟩ := HAv2.out _ _ _ h; first | assumption | exact hbdb | exact hblb)
          · intro b' off' s h
            obtain ⟨rfl, rfl⟩ := HAv2.out _ _ _ h
            exact ⟨rfl, hbdb, hblb, hbbw⟩
        case measure =>
          rw [lenSl_boxed (HL4.out.set _), lenSl_boxed HLw.out]; omega
      · refine ⟨_, rfl, ?_⟩
        gi_wp2_with fail
        refine bodyPost_ret (results_none rfl _ _ _) rfl ?_
        exact ⟨⟨_, rfl⟩, .inr ⟨pre, _, ⟨_, HX.out⟩, hJx⟩⟩
end Go.Proofs.YtdpgpjileffekaaGreatDoor
