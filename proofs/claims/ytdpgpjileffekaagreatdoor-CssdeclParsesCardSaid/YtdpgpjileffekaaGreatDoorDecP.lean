/- The walks of declarations by the reference: the declaration of a part. -/
import Derived.Test.YtdpgpjileffekaaGreatDoorKB
import Derived.Test.YtdpgpjileffekaaGreatDoorDecG
import Derived.Test.YtdpgpjileffekaaGreatDoorDecM
namespace Go.Proofs.YtdpgpjileffekaaGreatDoor
open Go.RowKit Go.Shelf
attribute [local go_sem] Oper.semAt_some
theorem wp_region_row {P : Program} {id : Nat} {ops : List Oper} {Q : Exit → Act → World → Prop} {a : Act} {w : World} (n : Nat) (is : List (Nat × Bool)) (S : World → Prop) (hm : P.follows .mixedOrders = true)
    (hsel : Region.noSelect ops.toArray = true) (hs : Region.sinkB .any ops.toArray n = true) (hc : Region.chainB .any ops.toArray n = true) (hn : n < ops.length) (hlen : is.length = n)
    (hQ : ∀ c a d v w, Q (.panic c) (a.put d v) w → Q (.panic c) a w) (hB : rowB .any ops.toArray n (ops.length - n) is (Array.replicate ops.length false) = true) (hS : S w.drew)
    (h : wpRow P ops.toArray Q S (fun a' w' => wpList P ops.toArray Q (ops.drop n) a' w') is a w.drew) : (Code.region id ops.toArray true).wp P Q a w :=
  wp_region_any hm (wpAny_row hsel hs hc hn hlen hQ hB hS h)
/-- The end of the reference's decl. -/
theorem below_out {B : Nat} {a b c : World} (h : Below B a b) (k : Below B b c) : Below B a c := h.trans k
def DeclP (A : Option Addr) (c : Nat) (p : List Css) (w : World) (e : Ending) (w' : World) : Prop :=
  ∃ (nm : ByteArray) (uA : Option Addr) (un uc : Nat) (im : Bool) (X : Gr), e = .returned (.tuple #[.agg #[.string nm, .slice uA un uc, .bool im], .bool (declOf p).isSome]) ∧ w' = w.grow X ∧
    ∀ d, declOf p = some d → ∃ b off, A = some ⟨b, off, none⟩ ∧ nm = ⟨d.name.toArray⟩ ∧ (uA = some ⟨b, off + 8, none⟩ ∧ un = d.value.length ∧ uc = c - 2) ∧ im = d.imp
theorem DeclP.no {A : Option Addr} {c : Nat} {p : List Css} {w w' : World} {nm : ByteArray} {uA : Option Addr} {un uc : Nat} {im r : Bool} (h : declOf p = none) (hr : r = false) (hb : Below w.heap.size w w') : DeclP A c p w (.returned (.tuple #[.agg #[.string nm, .slice uA un uc, .bool im], .bool r])) w' := by
  obtain ⟨X, rfl⟩ := grow_of_below hb
  subst hr
  exact ⟨nm, uA, un, uc, im, X, by rw [h]; rfl, rfl, fun d hd => by rw [h] at hd; cases hd⟩
theorem DeclP.yes {b off c : Nat} {p : List Css} {w w' : World} {nm : ByteArray} {im r : Bool} {d : Dcl} {n : Nat} (h : declOf p = some d) (hr : r = true) (hn : nm = ⟨d.name.toArray⟩) (hl : n = d.value.length) (hi : im = d.imp) (hb : Below w.heap.size w w') :
    DeclP (some ⟨b, off, none⟩) c p w (.returned (.tuple #[.agg #[.string nm, .slice (some ⟨b, off + 8, none⟩) n (c - 2), .bool im], .bool r])) w' := by
  obtain ⟨X, rfl⟩ := grow_of_below hb
  subst hr hn hl hi
  exact ⟨_, _, _, _, _, X, by rw [h]; rfl, rfl, fun d' hd => by rw [h] at hd; cases hd; exact ⟨b, off, rfl, rfl, ⟨rfl, rfl, rfl⟩, rfl⟩⟩
theorem declOf_short {p : List Css} (h : p.length < 3) : declOf p = none := by
  match p, h with
  | [], _ => rfl
  | [_], _ => rfl
  | [a, b], _ =>
    have : mayC (urgV []) = false := by decide
    simp only [declOf, this, Bool.and_false, Bool.false_eq_true, if_false]
  | _ :: _ :: _ :: _, h => simp at h; omega
theorem impC_eq (x : Css) : impC x = ((x.kind == 1) && ((⟨x.text.toArray⟩ : ByteArray).toList == (⟨#[105, 109, 112, 111, 114, 116, 97, 110, 116]⟩ : ByteArray).toList)) := by
  rw [ba_bq]; unfold impC impT; rw [Bool.eq_iff_iff]; simp only [Bool.and_eq_true, decide_eq_true_eq, beq_iff_eq]
theorem Rd.drop2 {W : World} {b off n c : Nat} {l : List Css} (h : Rd W (.slice (some ⟨b, off, none⟩) n c) l.length 4 (cssCells l)) (hl : 2 ≤ l.length) : Rd W (.slice (some ⟨b, off + 8, none⟩) (l.length - 2) (c - 2)) (l.drop 2).length 4 (cssCells (l.drop 2)) := by
  have := Rd.drop4 h 2 hl
  rw [List.length_drop] at this ⊢
  exact this
theorem name_world {c : Code} {P : Program} {Q : Exit → Act → World → Prop} {a : Act} {w : World} (h : ∀ W, W = w → c.wp P Q a W) : c.wp P Q a w := h w rfl
set_option maxRecDepth 100000 in
set_option maxHeartbeats 8000000 in
theorem rdecl_any (A : Option Addr) (n c : Nat) (p : List Css) (w : World) (h : Rd w (.slice A n c) p.length 4 (cssCells p)) (hc : p.length ≤ c) (hl : p.length ≤ 1000000000) :
    Calls Tryz.prog 27 #[.slice A n c] w (DeclP A c p w) := by
  have hmx : Tryz.prog.follows .mixedOrders = true := by kernel_rfl
  have HR := Lib.hid h
  obtain ⟨_, hm, A', c', heq, _⟩ := h
  cases heq
  by_cases h3 : p.length < 3
  · have HN := Lib.hid (declOf_short h3)
    have b3 : (p.length : Int) < 3 := by omega
    go_enter Tryz.func27, Tryz.ntmps27
    go_wp2_with fail
    ((try simp only [Exit.inBlock, Exit.then]); refine bodyPost_ret (v := .tuple #[.agg #[.string ⟨#[]⟩, .slice none 0 0, .bool false], .bool false]) (by (first | rw [results_cell_tmp rfl] | rw [results_cell1 rfl]); go_simp) rfl ?_)
    exact DeclP.no HN.out rfl (by repeat (first | with_reducible exact Below.refl _ _ | (with_reducible refine Below.alloc ?_ (by first | omega | (simp [go_sem] <;> omega)) _) | (with_reducible refine Below.drew ?_) | (with_reducible refine Below.drewN ?_ _) | (with_reducible refine Below.grow ?_ (by first | omega | (simp [go_sem] <;> omega)) _) | (with_reducible refine Below.setCell ?_ (by first | omega | (simp [go_sem] <;> omega)) _)))
  have b3 : ¬ (p.length : Int) < 3 := by omega
  obtain ⟨b, off, rfl, hb, c0, c1, c2, c3⟩ := HR.out.css 0 (by omega)
  obtain ⟨b', off', he, _, d0, d1, d2, d3⟩ := HR.out.css 1 (by omega)
  cases he
  simp only [Nat.zero_mul, Nat.add_zero, Nat.one_mul, sv] at c0 c1 c2 c3 d0 d1 d2 d3
  have HAt := Lib.hid (declOf_at (p := p) (by omega))
  have HI := Lib.hid (fun W : World => isM_one 58 p[1] ▸ ris_any p[1] [58] W)
  simp only [Css.agg, sv] at HI
  have HNm : Hid (sv p[0].text = .string ⟨p[0].text.toArray⟩) := rfl
  have HRv := Lib.hid (HR.out.drop2 (by omega))
  obtain ⟨m, hm3⟩ : ∃ m, p.length = m + 3 := ⟨p.length - 3, by omega⟩
  have HM3 := Lib.hid hm3
  generalize hm1 : mk1 58 p[1] = mk at *
  generalize hk0 : p[0].kind = k0 at *
  generalize p[0].num = k2 at *
  generalize ha1 : (⟨p[0].text.toArray⟩ : ByteArray) = a1 at *
  generalize (⟨p[0].unit.toArray⟩ : ByteArray) = a2 at *
  generalize p[1].kind = y1 at *
  generalize p[1].num = y3 at *
  generalize (⟨p[1].text.toArray⟩ : ByteArray) = z1 at *
  generalize (⟨p[1].unit.toArray⟩ : ByteArray) = z2 at *
  by_cases hk1 : k0 = 1
  case neg =>
    have HN : Hid (declOf p = none) := by show _ = _; rw [HAt.out]; simp [hk1]
    have b1 : (k0 != 1) = true := by simpa using hk1
    clear hm1 ha1 hk0
    go_enter Tryz.func27, Tryz.ntmps27
    go_wp2_with fail
    ((try simp only [Exit.inBlock, Exit.then]); refine bodyPost_ret (v := .tuple #[.agg #[.string ⟨#[]⟩, .slice none 0 0, .bool false], .bool false]) (by (first | rw [results_cell_tmp rfl] | rw [results_cell1 rfl]); go_simp) rfl ?_)
    exact DeclP.no HN.out rfl (by repeat (first | with_reducible exact Below.refl _ _ | (with_reducible refine Below.alloc ?_ (by first | omega | (simp [go_sem] <;> omega)) _) | (with_reducible refine Below.drew ?_) | (with_reducible refine Below.drewN ?_ _) | (with_reducible refine Below.grow ?_ (by first | omega | (simp [go_sem] <;> omega)) _) | (with_reducible refine Below.setCell ?_ (by first | omega | (simp [go_sem] <;> omega)) _)))
  subst hk1
  cases mk
  · have HN : Hid (declOf p = none) := by show _ = _; rw [HAt.out]; simp
    have HI2 := Lib.hid HI.out
    clear hm1 ha1 hk0 HI
    go_enter Tryz.func27, Tryz.ntmps27
    go_wp2_with (go_at_call 26; (with_reducible refine (HI2.out _).mono ?_); rintro e w' ⟨rfl, Y1, rfl⟩)
    ((try simp only [Exit.inBlock, Exit.then]); refine bodyPost_ret (v := .tuple #[.agg #[.string ⟨#[]⟩, .slice none 0 0, .bool false], .bool false]) (by (first | rw [results_cell_tmp rfl] | rw [results_cell1 rfl]); go_simp) rfl ?_)
    exact DeclP.no HN.out rfl (by repeat (first | with_reducible exact Below.refl _ _ | (with_reducible refine Below.alloc ?_ (by first | omega | (simp [go_sem] <;> omega)) _) | (with_reducible refine Below.drew ?_) | (with_reducible refine Below.drewN ?_ _) | (with_reducible refine Below.grow ?_ (by first | omega | (simp [go_sem] <;> omega)) _) | (with_reducible refine Below.setCell ?_ (by first | omega | (simp [go_sem] <;> omega)) _)))
  have HI2 := Lib.hid HI.out
  clear HI
  have HAt2 : Hid (declOf p = if mayC (urgV (p.drop 2)) then some ⟨p[0].text, urgV (p.drop 2), urg (p.drop 2)⟩ else none) := by show _ = _; rw [HAt.out]; simp
  clear HAt hm1 hk0
  have hdl : (p.drop 2).length = m + 1 := by rw [List.length_drop]; omega
  have hrv := HRv.out
  generalize hq : p.drop 2 = q at *
  rw [hm3] at hrv ⊢
  have hrv : Rd w (.slice (some ⟨b, off + 8, none⟩) (m + 1) (c - 2)) q.length 4 (cssCells q) := hrv
  have HQ := Lib.hid hrv
  have hql : q.length ≤ 1000000000 := by omega
  have hm9 : m + 3 ≤ 1000000000 := by omega
  have b4 : ¬ ((m + 3 : Nat) : Int) < 3 := by omega
  have hmc : m + 3 ≤ c := by omega
  have HDL := Lib.hid hdl
  have HU := Lib.hid (fun h => urg_at (l := q) h)
  have HU0 := Lib.hid (fun h => urg_few (l := q) h)
  obtain ⟨U, hU⟩ : ∃ U, urg q = U := ⟨_, rfl⟩
  have HUV : Hid (urgV q = if U then q.take (m - 1) else q) := by show _ = _; unfold urgV; rw [hU, hdl]; rfl
  rw [hU] at HU HU0 HAt2
  have HMa := Lib.hid (fun W (hB : Below w.heap.size w W) => show Calls Tryz.prog 32 #[.slice (some ⟨b, off + 8, none⟩) (urgV q).length (c - 2)] W (Ret (.bool (mayC (urgV q))) W) from by
    obtain ⟨X, rfl⟩ := grow_of_below hB
    refine rmay_any _ _ _ (urgV q) _ ?_ (by have := urgV_le q; omega)
    have := Rd.take4 (HQ.out.grow X) (urgV q).length (urgV_le q)
    rwa [← urgV_take] at this)
  clear hrv hU HM3 hdl HR HRv hq
  go_enter Tryz.func27, Tryz.ntmps27
  go_upto_region 3 with (go_at_call 26; (with_reducible refine (HI2.out _).mono ?_); rintro e w' ⟨rfl, Y1, rfl⟩)
  refine name_world fun W3 hW3 => ?_
  have HB3 : Hid (Below w.heap.size w W3) := by show Below _ _ _; rw [hW3]; exact (by repeat (first | with_reducible exact Below.refl _ _ | (with_reducible refine Below.alloc ?_ (by first | omega | (simp [go_sem] <;> omega)) _) | (with_reducible refine Below.drew ?_) | (with_reducible refine Below.drewN ?_ _) | (with_reducible refine Below.grow ?_ (by first | omega | (simp [go_sem] <;> omega)) _) | (with_reducible refine Below.setCell ?_ (by first | omega | (simp [go_sem] <;> omega)) _)))
  have g1 := (HB3.out.cell hb).trans c1
  have hb3 : b < W3.heap.size := Nat.lt_of_lt_of_le hb HB3.out.size
  have hlt3 : w.heap.size < W3.heap.size := by rw [hW3]; simp [size_grow]; omega
  have r0 : W3.cell? ⟨w.heap.size, 0, none⟩ = some (.string ⟨#[]⟩) := by rw [hW3]; simp [go_sem]
  have r1 : W3.cell? ⟨w.heap.size, 1, none⟩ = some (.slice none 0 0) := by rw [hW3]; simp [go_sem]
  have r2 : W3.cell? ⟨w.heap.size, 2, none⟩ = some (.bool false) := by rw [hW3]; simp [go_sem]
  have f0 : W3.frozen? ⟨w.heap.size, 0, none⟩ = false := by rw [hW3]; simp [go_sem]
  have f1 : W3.frozen? ⟨w.heap.size, 1, none⟩ = false := by rw [hW3]; simp [go_sem]
  have f2 : W3.frozen? ⟨w.heap.size, 2, none⟩ = false := by rw [hW3]; simp [go_sem]
  clear hW3 c0 c1 c2 c3 d0 d1 d2 d3 HI2
  refine wp_region_row 8 [(0, true), (1, true), (2, true), (3, true), (4, true), (5, true), (6, true), (7, false)] (fun W => W.cell? ⟨b, off + 1, none⟩ = some (.string a1)) hmx (by kernel_rfl) (by kernel_rfl) (by kernel_rfl) (by decide) rfl (by intro c a d v w h; cases d <;> simpa [Exit.then, Exit.inBlock, bodyPost, Act.put] using h) (by kernel_rfl) (by simp [go_sem, g1]) ?_
  have q1 : ¬ ((m : Int) + 3 ≤ 0) := by omega
  have q2 : ¬ c = 2 := by omega
  have q3 : ¬ ((m : Int) + 3 < 2) := by omega
  refine wpRow_read (v := .slice (some ⟨b, off, none⟩) (m + 3) c) rfl rfl (fun _ _ => by simp [execOp, go_sem]) ?_
  refine wpRow_read (v := .pointer (some ⟨b, off, none⟩)) rfl rfl (fun _ _ => by simp [execOp, go_sem, q1]) ?_
  refine wpRow_read (v := .pointer (some ⟨b, off + 1, none⟩)) rfl rfl (fun _ _ => by simp [execOp, go_sem]) ?_
  refine wpRow_read (v := .string a1) rfl rfl (fun _ hW => by simp [execOp, go_sem, hW]) ?_
  refine wpRow_read (v := .slice (some ⟨b, off, none⟩) (m + 3) c) rfl rfl (fun _ _ => by simp [execOp, go_sem]) ?_
  refine wpRow_read (v := .slice (some ⟨b, off + 8, none⟩) (m + 1) (c - 2)) rfl rfl (fun _ _ => by simp [execOp, go_sem, q2, q3]) ?_
  refine wpRow_read (v := .agg #[.string a1, .slice (some ⟨b, off + 8, none⟩) (m + 1) (c - 2), .bool false]) rfl rfl (fun _ _ => by simp [execOp, go_sem]) ?_
  refine wpRow_op rfl rfl fun K hK => ?_
  unfold Oper.wp
  simp [execOp, go_sem]
  apply hK
  refine ⟨by simp [go_sem, hb3, g1], ?_⟩
  dsimp only [wpRow, List.drop]
  go_upto_region 5 with fail
  refine name_world fun W5 hW5 => ?_
  have HB5 : Hid (Below W3.heap.size W3 W5) := by show Below _ _ _; rw [hW5]; exact (by repeat (first | with_reducible exact Below.refl _ _ | (with_reducible refine Below.alloc ?_ (by first | omega | (simp [go_sem] <;> omega)) _) | (with_reducible refine Below.drew ?_) | (with_reducible refine Below.drewN ?_ _) | (with_reducible refine Below.grow ?_ (by first | omega | (simp [go_sem] <;> omega)) _) | (with_reducible refine Below.setCell ?_ (by first | omega | (simp [go_sem] <;> omega)) _)))
  have hlt5 : W3.heap.size < W5.heap.size := by rw [hW5]; simp; try omega
  have e0 : W5.cell? ⟨W3.heap.size, 0, none⟩ = some (.string a1) := by rw [hW5]; simp [go_sem]
  have e1 : W5.cell? ⟨W3.heap.size, 1, none⟩ = some (.slice (some ⟨b, off + 8, none⟩) (m + 1) (c - 2)) := by rw [hW5]; simp [go_sem]
  have e2 : W5.cell? ⟨W3.heap.size, 2, none⟩ = some (.bool false) := by rw [hW5]; simp [go_sem]
  have h0 : W5.frozen? ⟨W3.heap.size, 0, none⟩ = false := by rw [hW5]; simp [go_sem]
  have h1 : W5.frozen? ⟨W3.heap.size, 1, none⟩ = false := by rw [hW5]; simp [go_sem]
  have h2 : W5.frozen? ⟨W3.heap.size, 2, none⟩ = false := by rw [hW5]; simp [go_sem]
  have s0 : W5.cell? ⟨w.heap.size, 0, none⟩ = some (.string ⟨#[]⟩) := (HB5.out.cell hlt3).trans r0
  have s1 : W5.cell? ⟨w.heap.size, 1, none⟩ = some (.slice none 0 0) := (HB5.out.cell hlt3).trans r1
  have s2 : W5.cell? ⟨w.heap.size, 2, none⟩ = some (.bool false) := (HB5.out.cell hlt3).trans r2
  have t0 : W5.frozen? ⟨w.heap.size, 0, none⟩ = false := (HB5.out.frozen hlt3).trans f0
  have t1 : W5.frozen? ⟨w.heap.size, 1, none⟩ = false := (HB5.out.frozen hlt3).trans f1
  have t2 : W5.frozen? ⟨w.heap.size, 2, none⟩ = false := (HB5.out.frozen hlt3).trans f2
  have HQ5 : Hid (Rd W5 (.slice (some ⟨b, off + 8, none⟩) (m + 1) (c - 2)) q.length 4 (cssCells q)) := HQ.out.below (below_next HB3.out HB5.out) rfl
  have HBW : Hid (Below w.heap.size w W5) := below_next HB3.out HB5.out
  clear hW5 r0 r1 r2 f0 f1 f2 g1
  go_cut [64] (fun s wx => s = .bool U ∧ ∃ X, wx = W5.grow X)
  case first =>
    by_cases hm2 : 2 ≤ m + 1
    · have bm : decide ((2 : Int) ≤ (m : Int) + 1) = true := by rw [decide_eq_true_eq]; omega
      have HU2 := Lib.hid (HU.out (by rw [HDL.out]; exact hm2))
      obtain ⟨b', off', he, _, x0, x1, x2, x3⟩ := HQ5.out.css (m - 1) (by rw [HDL.out]; omega)
      cases he
      obtain ⟨b', off', he, _, y0', y1', _, _⟩ := HQ5.out.css m (by rw [HDL.out]; omega)
      cases he
      have HI33 := Lib.hid (fun W : World => isM_one 33 (q[m - 1]'(by rw [HDL.out]; omega)) ▸ ris_any (q[m - 1]'(by rw [HDL.out]; omega)) [33] W)
      have HImp := Lib.hid (impC_eq (q[m]'(by rw [HDL.out]; omega)))
      have HU3 : Hid (U = (mk1 33 (q[m - 1]'(by rw [HDL.out]; omega)) && impC (q[m]'(by rw [HDL.out]; omega)))) := by
        show _ = _
        rw [HU2.out]
        congr 2
        · congr 1; rw [HDL.out]; omega
        · congr 1; rw [HDL.out]; omega
      simp only [Css.agg, sv] at HI33 x1 x3 y1'
      generalize mk1 33 (q[m - 1]'(by rw [HDL.out]; omega)) = m33 at *
      have g1 : m - 1 < q.length := by rw [HDL.out]; omega
      have g2 : m < q.length := by rw [HDL.out]; omega
      generalize q[m - 1] = u at *
      generalize impC (q[m]'(by rw [HDL.out]; omega)) = ic at *
      generalize q[m] = v at *
      generalize (⟨u.text.toArray⟩ : ByteArray) = u1 at *
      generalize (⟨u.unit.toArray⟩ : ByteArray) = u2 at *
      generalize (⟨v.text.toArray⟩ : ByteArray) = v1 at *
      generalize u.kind = uk at *
      generalize u.num = un at *
      generalize v.kind = vk at *
      have t2 : ((m : Int) + 1 - 2).toNat = m - 1 := by omega
      have z2 : 0 ≤ (m : Int) + 1 - 2 := by omega
      have z3 : (m : Int) + 1 - 2 < (m : Int) + 1 := by omega
      cases m33
      · have HN : Hid (U = false) := by show _ = _; rw [HU3.out]; rfl
        have HI34 := Lib.hid HI33.out
        go_wp2_with (go_at_call 26; (with_reducible refine (HI34.out _).mono ?_); rintro e w' ⟨rfl, Y1, rfl⟩)
        go_meet
        case rel => exact ⟨by rw [HN.out], _, rfl⟩
      · have HN : Hid (U = ic) := by show _ = _; rw [HU3.out]; rfl
        have HI34 := Lib.hid HI33.out
        have HIc := Lib.hid (HN.out.trans HImp.out)
        clear HI33 HImp HU3 HU2 HN
        cases e1 : (vk == 1)
        · have HN : Hid (U = false) := by show _ = _; rw [HIc.out, e1]; rfl
          go_wp2_with (go_at_call 26; (with_reducible refine (HI34.out _).mono ?_); rintro e w' ⟨rfl, Y1, rfl⟩)
          go_meet
          case rel => exact ⟨by rw [HN.out], _, rfl⟩
        · have HN : Hid (U = (v1.toList == (⟨#[105, 109, 112, 111, 114, 116, 97, 110, 116]⟩ : ByteArray).toList)) := by show _ = _; rw [HIc.out, e1]; rfl
          go_wp2_with (go_at_call 26; (with_reducible refine (HI34.out _).mono ?_); rintro e w' ⟨rfl, Y1, rfl⟩)
          go_meet
          case rel => exact ⟨by rw [HN.out]; simp, _, rfl⟩
    · have bm : decide ((2 : Int) ≤ (m : Int) + 1) = false := by rw [decide_eq_false_iff_not]; omega
      have HN := Lib.hid (HU0.out (by rw [HDL.out]; omega))
      go_wp2_with fail
      go_meet
      case rel => exact ⟨by rw [HN.out], _, (grow_refl _).symm⟩
  case rest =>
    obtain ⟨rfl, X, rfl⟩ := hcut
    obtain ⟨wx, hwx⟩ : ∃ W, W5.grow X = W := ⟨_, rfl⟩
    have HBx : Hid (Below W5.heap.size W5 wx) := by show Below _ _ _; rw [← hwx]; exact below_grow _ _
    rw [hwx]
    clear hwx
    have e0' := (HBx.out.cell hlt5).trans e0
    have e1' := (HBx.out.cell hlt5).trans e1
    have e2' := (HBx.out.cell hlt5).trans e2
    have h0' := (HBx.out.frozen hlt5).trans h0
    have h1' := (HBx.out.frozen hlt5).trans h1
    have h2' := (HBx.out.frozen hlt5).trans h2
    have hw5 : w.heap.size < W5.heap.size := by omega
    have s0' := (HBx.out.cell hw5).trans s0
    have s1' := (HBx.out.cell hw5).trans s1
    have s2' := (HBx.out.cell hw5).trans s2
    have t0' := (HBx.out.frozen hw5).trans t0
    have t1' := (HBx.out.frozen hw5).trans t1
    have t2' := (HBx.out.frozen hw5).trans t2
    have hl5 := HBx.out.size
    have hlx : W3.heap.size < wx.heap.size := by omega
    have HBW2 : Hid (Below w.heap.size w wx) := below_next HBW.out HBx.out
    have hne : w.heap.size ≠ W3.heap.size := by omega
    obtain ⟨V, hV⟩ : ∃ V, urgV q = V := ⟨_, rfl⟩
    rw [hV] at HMa HAt2 HUV
    obtain ⟨M, hM⟩ : ∃ M, mayC V = M := ⟨_, rfl⟩
    rw [hM] at HMa HAt2
    clear e0 e1 e2 h0 h1 h2 s0 s1 s2 t0 t1 t2 hV hM
    cases U
    · have HVl : Hid (V.length = m + 1) := by show _ = _; rw [HUV.out]; exact HDL.out
      clear HUV
      go_upto_region 8 with fail
      refine name_world fun W8 hW8 => ?_
      have HB8 : Hid (Below w.heap.size w W8) := by show Below _ _ _; rw [hW8]; exact HBW2.out
      have a0 : W8.cell? ⟨W3.heap.size, 0, none⟩ = some (.string a1) := by rw [hW8]; exact e0'
      have a1' : W8.cell? ⟨W3.heap.size, 1, none⟩ = some (.slice (some ⟨b, off + 8, none⟩) (m + 1) (c - 2)) := by rw [hW8]; exact e1'
      have a2' : W8.cell? ⟨W3.heap.size, 2, none⟩ = some (.bool false) := by rw [hW8]; exact e2'
      have b0 : W8.cell? ⟨w.heap.size, 0, none⟩ = some (.string ⟨#[]⟩) := by rw [hW8]; exact s0'
      have b1 : W8.cell? ⟨w.heap.size, 1, none⟩ = some (.slice none 0 0) := by rw [hW8]; exact s1'
      have b2' : W8.cell? ⟨w.heap.size, 2, none⟩ = some (.bool false) := by rw [hW8]; exact s2'
      have d0 : W8.frozen? ⟨w.heap.size, 0, none⟩ = false := by rw [hW8]; exact t0'
      have d1 : W8.frozen? ⟨w.heap.size, 1, none⟩ = false := by rw [hW8]; exact t1'
      have d2 : W8.frozen? ⟨w.heap.size, 2, none⟩ = false := by rw [hW8]; exact t2'
      have hlt8 : W3.heap.size < W8.heap.size := by rw [hW8]; exact hlx
      clear hW8 e0' e1' e2' h0' h1' h2' s0' s1' s2' t0' t1' t2'
      have bl1 : w.heap.size < W8.heap.size := by omega
      have HMb := Lib.hid (fun W (hB : Below w.heap.size w W) => show Calls Tryz.prog 32 #[.slice (some ⟨b, off + 8, none⟩) (m + 1) (c - 2)] W (Ret (.bool M) W) from by have := HMa.out W hB; rwa [HVl.out] at this)
      clear HMa HQ HQ5
      refine wp_region_grow_tail 4 (by kernel_rfl) (by kernel_rfl) ?_
      dsimp only [List.take, List.drop]
      repeat (go_big_quiet_step (first | (go_at_call 32; with_reducible exact Calls.grow_of (HMb.out _ (below_next HB8.out (by (repeat (first | with_reducible exact Below.refl _ _ | (with_reducible refine Below.alloc ?_ (by first | omega | (simp [go_sem] <;> omega)) _) | (with_reducible refine Below.drew ?_) | (with_reducible refine Below.drewN ?_ _) | (with_reducible refine Below.grow ?_ (by first | omega | (simp [go_sem] <;> omega)) _) | (with_reducible refine Below.setCell ?_ (by first | omega | (simp [go_sem] <;> omega)) _))); done))))))
      refine wpQuiet_nil ?_
      intro _ hw'; obtain ⟨nq, hw''⟩ := hw'; subst hw''
      go_wp2
      ((try simp only [Exit.inBlock, Exit.then]); refine bodyPost_ret (v := .tuple #[.agg #[.string a1, .slice (some ⟨b, off + 8, none⟩) (m + 1) (c - 2), .bool false], .bool M]) (by (first | rw [results_cell_tmp rfl] | rw [results_cell1 rfl]); go_simp) rfl ?_)
      cases M
      · exact DeclP.no (by rw [HAt2.out]; rfl) rfl (below_out HB8.out (by (repeat (first | with_reducible exact Below.refl _ _ | (with_reducible refine Below.alloc ?_ (by first | omega | (simp [go_sem] <;> omega)) _) | (with_reducible refine Below.drew ?_) | (with_reducible refine Below.drewN ?_ _) | (with_reducible refine Below.grow ?_ (by first | omega | (simp [go_sem] <;> omega)) _) | (with_reducible refine Below.setCell ?_ (by first | omega | (simp [go_sem] <;> omega)) _))); done))
      · exact DeclP.yes (d := ⟨p[0].text, V, false⟩) (by rw [HAt2.out]; rfl) rfl ha1.symm HVl.out.symm rfl (below_out HB8.out (by (repeat (first | with_reducible exact Below.refl _ _ | (with_reducible refine Below.alloc ?_ (by first | omega | (simp [go_sem] <;> omega)) _) | (with_reducible refine Below.drew ?_) | (with_reducible refine Below.drewN ?_ _) | (with_reducible refine Below.grow ?_ (by first | omega | (simp [go_sem] <;> omega)) _) | (with_reducible refine Below.setCell ?_ (by first | omega | (simp [go_sem] <;> omega)) _))); done))
    · have HVl : Hid (V.length = m - 1) := by show _ = _; rw [HUV.out, if_pos rfl, List.length_take, HDL.out]; omega
      have hm1 : 1 ≤ m := by
        rcases Nat.lt_or_ge 1 (m + 1) with h | h
        · omega
        · have := HU0.out (by rw [HDL.out]; omega); cases this
      clear HUV
      have t2 : ((m : Int) + 1 - 2).toNat = m - 1 := by omega
      have z2 : 0 ≤ (m : Int) + 1 - 2 := by omega
      have z3 : (m : Int) + 1 - 2 ≤ (c - 2 : Nat) := by omega
      go_upto_region 8 with fail
      refine name_world fun W8 hW8 => ?_
      have HB8 : Hid (Below w.heap.size w W8) := by show Below _ _ _; rw [hW8]; exact (HBW2.out.setCell (by simp; omega) _).setCell (by simp; omega) _
      have a0 : W8.cell? ⟨W3.heap.size, 0, none⟩ = some (.string a1) := by rw [hW8]; simp [go_sem, e0']
      have a1' : W8.cell? ⟨W3.heap.size, 1, none⟩ = some (.slice (some ⟨b, off + 8, none⟩) (m - 1) (c - 2)) := by rw [hW8]; simp [go_sem, e1']
      have a2' : W8.cell? ⟨W3.heap.size, 2, none⟩ = some (.bool true) := by rw [hW8]; simp [go_sem, e2']
      have b0 : W8.cell? ⟨w.heap.size, 0, none⟩ = some (.string ⟨#[]⟩) := by rw [hW8]; simp [go_sem, s0']
      have b1 : W8.cell? ⟨w.heap.size, 1, none⟩ = some (.slice none 0 0) := by rw [hW8]; simp [go_sem, s1']
      have b2' : W8.cell? ⟨w.heap.size, 2, none⟩ = some (.bool false) := by rw [hW8]; simp [go_sem, s2']
      have d0 : W8.frozen? ⟨w.heap.size, 0, none⟩ = false := by rw [hW8]; simp [go_sem, t0']
      have d1 : W8.frozen? ⟨w.heap.size, 1, none⟩ = false := by rw [hW8]; simp [go_sem, t1']
      have d2 : W8.frozen? ⟨w.heap.size, 2, none⟩ = false := by rw [hW8]; simp [go_sem, t2']
      have hlt8 : W3.heap.size < W8.heap.size := by rw [hW8]; simpa using hlx
      clear hW8 e0' e1' e2' h0' h1' h2' s0' s1' s2' t0' t1' t2'
      have bl1 : w.heap.size < W8.heap.size := by omega
      have HMb := Lib.hid (fun W (hB : Below w.heap.size w W) => show Calls Tryz.prog 32 #[.slice (some ⟨b, off + 8, none⟩) (m - 1) (c - 2)] W (Ret (.bool M) W) from by have := HMa.out W hB; rwa [HVl.out] at this)
      clear HMa HQ HQ5
      refine wp_region_grow_tail 4 (by kernel_rfl) (by kernel_rfl) ?_
      dsimp only [List.take, List.drop]
      repeat (go_big_quiet_step (first | (go_at_call 32; with_reducible exact Calls.grow_of (HMb.out _ (below_next HB8.out (by (repeat (first | with_reducible exact Below.refl _ _ | (with_reducible refine Below.alloc ?_ (by first | omega | (simp [go_sem] <;> omega)) _) | (with_reducible refine Below.drew ?_) | (with_reducible refine Below.drewN ?_ _) | (with_reducible refine Below.grow ?_ (by first | omega | (simp [go_sem] <;> omega)) _) | (with_reducible refine Below.setCell ?_ (by first | omega | (simp [go_sem] <;> omega)) _))); done))))))
      refine wpQuiet_nil ?_
      intro _ hw'; obtain ⟨nq, hw''⟩ := hw'; subst hw''
      go_wp2
      ((try simp only [Exit.inBlock, Exit.then]); refine bodyPost_ret (v := .tuple #[.agg #[.string a1, .slice (some ⟨b, off + 8, none⟩) (m - 1) (c - 2),   .bool true], .bool M]) (by (first | rw [results_cell_tmp rfl] | rw [results_cell1 rfl]); go_simp) rfl ?_)
      cases M
      · exact DeclP.no (by rw [HAt2.out]; rfl) rfl (below_out HB8.out (by (repeat (first | with_reducible exact Below.refl _ _ | (with_reducible refine Below.alloc ?_ (by first | omega | (simp [go_sem] <;> omega)) _) | (with_reducible refine Below.drew ?_) | (with_reducible refine Below.drewN ?_ _) | (with_reducible refine Below.grow ?_ (by first | omega | (simp [go_sem] <;> omega)) _) | (with_reducible refine Below.setCell ?_ (by first | omega | (simp [go_sem] <;> omega)) _))); done))
      · exact DeclP.yes (d := ⟨p[0].text, V, true⟩) (by rw [HAt2.out]; rfl) rfl ha1.symm HVl.out.symm rfl (below_out HB8.out (by (repeat (first | with_reducible exact Below.refl _ _ | (with_reducible refine Below.alloc ?_ (by first | omega | (simp [go_sem] <;> omega)) _) | (with_reducible refine Below.drew ?_) | (with_reducible refine Below.drewN ?_ _) | (with_reducible refine Below.grow ?_ (by first | omega | (simp [go_sem] <;> omega)) _) | (with_reducible refine Below.setCell ?_ (by first | omega | (simp [go_sem] <;> omega)) _))); done))
end Go.Proofs.YtdpgpjileffekaaGreatDoor
