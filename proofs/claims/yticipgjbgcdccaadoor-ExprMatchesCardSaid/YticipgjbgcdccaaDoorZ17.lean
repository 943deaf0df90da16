/- The reference's net: ends: contract. -/
import Derived.Test.YticipgjbgcdccaaDoorZ16
set_option linter.unusedSimpArgs false
set_option linter.unusedVariables false
namespace Go.Proofs.YticipgjbgcdccaaDoor
open Go.RowKit

theorem Lang_one (f t a b : Int) (l : List Ex) (w : List Nat) : Lang (.mk 1 f t a b l) w = ∃ c : Nat, w = [c] ∧ f ≤ c ∧ (c : Int) ≤ t := by
  conv => lhs; unfold Lang
  rfl
theorem Lang_rp (f t a b : Int) (y : Ex) (w : List Nat) : Lang (.mk 4 f t a b [y]) w = ∃ n : Nat, a ≤ n ∧ (b < 0 ∨ (n : Int) ≤ b) ∧ powL (Lang y) n w := by
  conv => lhs; unfold Lang
  rw [Langs_eq]; rfl
theorem Stp.rows {w w' : World} {F : NF} {s : NS} (h : NetOk w F s) {i g1 g2 : Nat} (hc : Chg (fun k => k = F.gD ∨ k = F.gX) w w') (hg1 : w.heap.size ≤ g1) (hg2 : w.heap.size ≤ g2) :
    Stp w s w' { s with T := upd (upd s.T g1 (5 + 3 * i)) g2 (6 + 3 * i), d := upd s.d i (some g1), x := upd s.x i (some g2), kn := upd s.kn i (fun _ => false) } where
  chg := hc.mono fun k _ e => by
    rcases e with rfl | rfl
    · rw [h.tD]; omega
    · rw [h.tX]; omega
  T := fun k hk => (upd_ne _ _ (by omega)).trans (upd_ne _ _ (by omega))
  d := fun j hj => by
    by_cases e : j = i
    · subst e; simp [upd]
    · simp only [upd, if_neg e]; exact hj
  v := fun _ h => h
theorem Stp.know {w w' : World} {F : NF} {s : NS} (h : NetOk w F s) {i gd gx : Nat} {x : Ex} (hi : F.es[i]? = some x) (hd : s.d i = some gd) (hx : s.x i = some gx) (hc : Chg (fun k => k = gd ∨ k = gx) w w') (kn : Nat → Nat → Bool) : Stp w s w' { s with kn := kn } where
  chg := hc.mono fun k _ e => by
    rcases e with rfl | rfl
    · rw [(h.dr i _ hd).1]; omega
    · rw [(h.xr i x _ hi hx).1]; omega
  T := fun _ _ => rfl
  d := fun _ h => h
  v := fun _ h => h

theorem guard_row (w : World) (n : Nat) (o : Option Nat) (t : TypeId) (x y : Operand) : (eqGuard .eql t x y (rowOf n o) (.slice none 0 0)).run Tryd.prog w = .ok () w := by
  cases o <;> simp [eqGuard, rowOf, go_sem]
theorem nil_row (w : World) (n : Nat) (o : Option Nat) : (binOp .eql 123 (rowOf n o) (.slice none 0 0)).run Tryd.prog w = .ok (.bool o.isNone) w := by
  cases o with
  | none => exact Lib.run_eql_slice_nil w _ _ none 0 0 0 0 Tryd.underlying123
  | some g => exact Lib.run_eql_slice_nil w _ _ (some ⟨g, 0, none⟩) (n + 1) (n + 1) 0 0 Tryd.underlying123

/-- how many are marked -/
def cntB (M : Nat → Bool) : Nat → Nat
  | 0 => 0
  | k + 1 => cntB M k + (if M k = true then 1 else 0)
theorem cntB_le (M : Nat → Bool) : ∀ n, cntB M n ≤ n
  | 0 => Nat.le_refl _
  | n + 1 => by
    have := cntB_le M n
    unfold cntB; split <;> omega
theorem cntB_far (M : Nat → Bool) (q : Nat) : ∀ n, n ≤ q → cntB (upd M q true) n = cntB M n
  | 0, _ => rfl
  | n + 1, h => by
    have := cntB_far M q n (by omega)
    unfold cntB
    rw [this, upd_ne _ _ (by omega)]
theorem cntB_upd (M : Nat → Bool) (q : Nat) (hq : M q = false) : ∀ n, q < n → cntB (upd M q true) n = cntB M n + 1
  | 0, h => by omega
  | n + 1, h => by
    unfold cntB
    rcases Nat.lt_or_ge q n with h1 | h1
    · rw [cntB_upd M q hq n h1, upd_ne _ _ (by omega)]; omega
    · obtain rfl : q = n := by omega
      rw [cntB_far M q q (Nat.le_refl _), upd_same, hq]; simp
theorem cntB_pos (M : Nat → Bool) (q : Nat) (hq : M q = true) : ∀ n, q < n → 1 ≤ cntB M n
  | 0, h => by omega
  | n + 1, h => by
    unfold cntB
    rcases Nat.lt_or_ge q n with h1 | h1
    · have := cntB_pos M q hq n h1
      omega
    · obtain rfl : q = n := by omega
      rw [if_pos hq]; omega

set_option maxHeartbeats 4000000 in
set_option maxRecDepth 100000 in
theorem ends_of (F : NF) (hF : NFok F) (x : Ex) (hR : rightP x = true) (hE : ∀ y ∈ x.l, EndsC F y) : EndsC F x := by
  have hSt : ∀ y ∈ x.l, StepC F y := fun y hy => step_of F hF y (hE y hy)
  intro i a w s h ht ha
  have hil : i < F.es.length := ht.lt
  have hn9 := hF.n
  have HN := Lib.hid h
  obtain ⟨y0, y1, y2, y3, y4, y5⟩ := h.cells
  have hdc : w.cell? ⟨F.gD, i, none⟩ = some (rowOf F.b.length (s.d i)) ∧ w.frozen? ⟨F.gD, i, none⟩ = false := h.D.2 i hil
  have hxc : w.cell? ⟨F.gX, i, none⟩ = some (rowOf F.b.length (s.x i)) ∧ w.frozen? ⟨F.gX, i, none⟩ = false := h.X.2 i hil
  have hz0 : (0 : Int) ≤ (i : Int) := by omega
  have hz1 : (i : Int) < (F.es.length : Int) := by omega
  have hmkb := fun w => make_bools w F.b.length (by omega)
  have hmks := fun w => make_intss w F.b.length (by omega)
  have hq := fun w => nil_row w F.b.length (s.d i)
  have hqg := fun w t x y => guard_row w F.b.length (s.d i) t x y
  obtain ⟨z, hz⟩ : ∃ z, (s.d i).isNone = z := ⟨_, rfl⟩
  rw [hz] at hq
  have HZ := Lib.hid hz
  obtain ⟨hdc1, hdc2⟩ := hdc
  obtain ⟨rv, hrv⟩ : ∃ v, rowOf F.b.length (s.d i) = v := ⟨_, rfl⟩
  rw [hrv] at hq hdc1
  simp only [hrv] at hqg
  clear hrv hz h
  go_enter Tryd.func62, Tryd.ntmps62
  go_upto_if 27 with fail
  go_cut [] from 20 to 53 (fun wx => ∃ s1, NetOk wx F s1 ∧ Stp w s wx s1 ∧ s1.lv = s.lv ∧ s1.v = s.v ∧ s1.d i ≠ none)
  case first =>
    cases z with
    | false => as_aux_lemma =>
      go_wp2
      go_meet
      exact ⟨s, HN.out, Stp.refl _ _, rfl, rfl, fun e => by have := HZ.out; rw [e] at this; cases this⟩
    | true => as_aux_lemma =>
      have hd : s.d i = none := Option.isNone_iff_eq_none.1 HZ.out
      have hx : s.x i = none := (HN.out.dx i).1 hd
      obtain ⟨hxc1, hxc2⟩ := hxc
      rw [hx] at hxc1
      simp only [rowOf] at hxc1
      have HD := Lib.hid hd
      clear hd hx hq hqg
      have hbW : ∀ j, j < 6 → (w.alloc (.cells (madeCells #[.bool false] (F.b.length + 1)) 4)).cell? ⟨F.m, j, none⟩ = w.cell? ⟨F.m, j, none⟩ := fun j _ => by
        unfold World.cell?
        rw [Below.heap_alloc w _ F.m HN.out.m.lt]
      have x0 := (hbW 0 (by omega)).trans y0
      have x4 := (hbW 4 (by omega)).trans y4
      have hDW : Arr (w.alloc (.cells (madeCells #[.bool false] (F.b.length + 1)) 4)) F.gD F.es.length (fun j => rowOf F.b.length (s.d j)) := HN.out.D.chg ((Chg.refl No w).alloc _) id
      obtain ⟨xd1, xd2⟩ := hDW.2 i hil
      have hrow := World.rowIs_made w (.bool false) (F.b.length + 1) 4
      have hne : w.heap.size ≠ F.gD := by have := HN.out.D.1; omega
      have HDW := Lib.hid hDW
      have HR := Lib.hid hrow
      clear hbW hDW hrow
      go_upto_region 2 with fail
      go_cut [] from 28 to 40 (fun wx => Chg (One F.gD) w wx ∧ Arr wx F.gD F.es.length (fun j => if j = i then rowOf F.b.length (some w.heap.size) else rowOf F.b.length (s.d j)) ∧ Arr wx w.heap.size (F.b.length + 1) (fun _ => .bool false))
      case first =>
        go_region
        all_goals
          go_wp2
          go_meet
          refine ⟨(((Chg.refl (One F.gD) w).alloc _).setCell (p := ⟨F.gD, i, none⟩) _ fun _ => rfl).drew, ?_, ?_⟩
          · exact (HDW.out.set i hil _).chg ((Chg.refl No _).drew) id
          · exact ((Arr.of_row HR.out).chg (S := One F.gD) ((Chg.refl _ _).setCell (p := ⟨F.gD, i, none⟩) _ fun _ => rfl) hne).chg ((Chg.refl No _).drew) id
      case rest =>
        obtain ⟨hc1, hD1, hr1⟩ := hcut
        have hz1 : w.heap.size + 1 ≤ wc.heap.size := hr1.1
        have hmne : F.m ≠ F.gD := fun e => by have h1 := HN.out.tm; have h2 := HN.out.tD; rw [e] at h1; omega
        have hxne : F.gX ≠ F.gD := fun e => by have h1 := HN.out.tX; have h2 := HN.out.tD; rw [e] at h1; omega
        have hmB := HN.out.m.chg hc1 hmne
        have hXc := HN.out.X.chg hc1 hxne
        clear y0 y1 y2 y3 y4 y5 x0 x4 xd1 xd2 hdc1 hdc2 hxc1 hxc2
        have hmB2 := hmB.alloc (.cells (madeCells #[.slice none 0 0] (F.b.length + 1)) 88)
        have x0 := (hmB2.cell 0).trans rfl
        have x3 := (hmB2.cell 3).trans rfl
        have y0 := (hmB.cell 0).trans rfl
        have y3 := (hmB.cell 3).trans rfl
        have hXW : Arr (wc.alloc (.cells (madeCells #[.slice none 0 0] (F.b.length + 1)) 88)) F.gX F.es.length (fun j => rowOf F.b.length (s.x j)) := hXc.chg ((Chg.refl No wc).alloc _) id
        obtain ⟨xd1, xd2⟩ := hXW.2 i hil
        have hrow := World.rowIs_made wc (.slice none 0 0) (F.b.length + 1) 88
        have hne2 : wc.heap.size ≠ F.gX := by have := hXc.1; omega
        have HDW2 := Lib.hid hXW
        have HR2 := Lib.hid hrow
        have HP := Lib.hid (show Chg (One F.gD) w wc ∧ Arr wc F.gD F.es.length (fun j => if j = i then rowOf F.b.length (some w.heap.size) else rowOf F.b.length (s.d j)) ∧ Arr wc w.heap.size (F.b.length + 1) (fun _ => .bool false) ∧ w.heap.size + 1 ≤ wc.heap.size from ⟨hc1, hD1, hr1, hz1⟩)
        clear hXW hrow hmB hmB2 hXc hc1 hD1 hr1 hz1 HR HDW
        simp only [List.getElem?_toArray, List.getElem?_cons_zero, List.getElem?_cons_succ] at x0 x3 y0 y3
        go_wp2
        go_region
        all_goals
          go_wp2
          go_meet
          obtain ⟨hc1, hD1, hr1, hz1⟩ := HP.out
          have c2 : Chg (One F.gX) wc (((wc.alloc (.cells (madeCells #[.slice none 0 0] (F.b.length + 1)) 88)).setCell ⟨F.gX, i, none⟩ (.slice (some ⟨wc.heap.size, 0, none⟩) (F.b.length + 1) (F.b.length + 1))).drew) := (((Chg.refl (One F.gX) wc).alloc _).setCell (p := ⟨F.gX, i, none⟩) _ fun _ => rfl).drew
          have c3 : Chg (fun k => k = F.gD ∨ k = F.gX) w _ := (hc1.mono fun k _ e => .inl e).then_ c2 fun k _ e => .inr e
          have k1 := HN.out.rows (i := i) (g1 := w.heap.size) (g2 := wc.heap.size) hil HD.out c3 (Nat.le_refl _) (by omega) (by omega) (hD1.chg c2 fun e => hxne e.symm)
            ((HDW2.out.set i hil _).chg ((Chg.refl No _).drew) id) (hr1.chg c2 fun e => by have h1 := HN.out.X.1; unfold One at e; omega)
            (((Arr.of_row HR2.out).chg (S := One F.gX) ((Chg.refl _ _).setCell (p := ⟨F.gX, i, none⟩) _ fun _ => rfl) hne2).chg ((Chg.refl No _).drew) id)
          exact ⟨_, k1, Stp.rows HN.out c3 (Nat.le_refl _) (by omega), rfl, rfl, by simp [upd]⟩
  case rest =>
    obtain ⟨s1, hN, hS, hlv, hv, hd0⟩ := hcut
    clear y0 y1 y2 y3 y4 y5 hdc1 hdc2 hxc hq hqg
    obtain ⟨gd, hd⟩ := Option.ne_none_iff_exists'.1 hd0
    obtain ⟨gx, hx⟩ := Option.ne_none_iff_exists'.1 (fun e => hd0 ((hN.dx i).2 e))
    obtain ⟨y0, y1, y2, y3, y4, y5⟩ := hN.cells
    have hdc : wc.cell? ⟨F.gD, i, none⟩ = some (rowOf F.b.length (s1.d i)) := (hN.D.2 i hil).1
    have hxc : wc.cell? ⟨F.gX, i, none⟩ = some (rowOf F.b.length (s1.x i)) := (hN.X.2 i hil).1
    rw [hd] at hdc
    rw [hx] at hxc
    simp only [rowOf] at hdc hxc
    have hda : wc.cell? ⟨gd, a, none⟩ = some (.bool (s1.kn i a)) := ((hN.dr i gd hd).2.2 a (by omega)).1
    obtain ⟨tgx, f, hfx, hER⟩ := hN.xr i x gx ht.node hx
    have hxa := (hfx.2 a (by omega)).1
    have hz2 : (0 : Int) ≤ (a : Int) := by omega
    have hz3 : (a : Int) < ((F.b.length : Int) + 1) := by omega
    have HN1 := Lib.hid hN
    cases hk : s1.kn i a with
    | true => as_aux_lemma =>
      rw [hk] at hda
      obtain ⟨l, k1, k2⟩ := hER a ha hk
      have HK := Lib.hid (show IntsV wc (fun g => s1.T g = 0) (f a) l ∧ Pls (At (Lang x) F.b a) l from ⟨k1, k2⟩)
      obtain ⟨A, c, e, _, _⟩ := k1.form
      rw [e] at hxa HK
      clear hk hER k1 k2 hfx hN e
      go_wp2
      go_ret
      exact ⟨_, l, s1, rfl, HN1.out, hS, hlv, hv, HK.out.1, HK.out.2⟩
    | false =>
      rw [hk] at hda
      obtain ⟨Ae, ce, e0, e1, e2, e3, e4, e5⟩ := hN.E i x ht.node
      clear hk hER hfx hN hxa hxc hd hx tgx
      have hN7 := HN1.out.keepNo ((Chg.refl No wc).alloc (.cells #[.int .i64 x.k, .int .i64 x.f, .int .i64 x.t, .int .i64 x.a, .int .i64 x.b, .slice Ae x.l.length ce] 25))
      have hS7 := hS.no ((Chg.refl No wc).alloc (.cells #[.int .i64 x.k, .int .i64 x.f, .int .i64 x.t, .int .i64 x.a, .int .i64 x.b, .slice Ae x.l.length ce] 25))
      have hb7 := Blk.new wc 25 #[.int .i64 x.k, .int .i64 x.f, .int .i64 x.t, .int .i64 x.a, .int .i64 x.b, .slice Ae x.l.length ce]
      have ht7 : s1.T wc.heap.size = 0 := HN1.out.new _ (Nat.le_refl _)
      have H7 := Lib.hid (⟨hN7, hS7, hb7, ht7⟩ : _ ∧ _ ∧ _ ∧ _)
      clear hN7 hS7 hb7 ht7 hS HN1
      go_upto_block 0 with fail
      obtain ⟨G, hG⟩ : ∃ G, wc.heap.size = G := ⟨_, rfl⟩
      obtain ⟨w7, hw7⟩ : ∃ w7, wc.alloc (.cells #[.int .i64 x.k, .int .i64 x.f, .int .i64 x.t, .int .i64 x.a, .int .i64 x.b, .slice Ae x.l.length ce] 25) = w7 := ⟨_, rfl⟩
      rw [hw7] at H7 ⊢
      simp only [hG] at H7 ⊢
      clear hw7 hG y0 y1 y2 y3 y4 y5 hdc hda e0 e1 e2 e3 e4 e5
      go_cut [8] from 8 to 8 (fun s8 wx => ∃ l s2, NetOk wx F s2 ∧ Stp w s wx s2 ∧ s2.lv = s.lv ∧ s2.v = s.v ∧ s2.d i ≠ none ∧ IntsV wx (fun g => s2.T g = 0) s8 l ∧ Pls (At (Lang x) F.b a) l)
      case first =>
        clear HN HZ
        obtain ⟨k, f, t, mn, mx, l⟩ := x
        obtain ⟨hh, hrk⟩ := rightP_head hR
        simp only [Ex.k, Ex.f, Ex.t, Ex.a, Ex.b, Ex.l] at H7 hE hSt ⊢
        obtain ⟨hN7, hS7, hb7, ht7⟩ := H7.out
        obtain ⟨y0, y1, y2, y3, y4, y5⟩ := hN7.cells
        have x1 := (hb7.cell 1).trans rfl
        have x2 := (hb7.cell 2).trans rfl
        have x3 := (hb7.cell 3).trans rfl
        have x4 := (hb7.cell 4).trans rfl
        simp only [List.getElem?_toArray, List.getElem?_cons_zero, List.getElem?_cons_succ] at x1 x2 x3 x4
        clear hN7 hS7 hb7 ht7
        rcases headOk_cases hh with rfl | rfl | rfl | rfl
        · have hL : ∀ j, At (Lang (.mk 1 f t mn mx l)) F.b a j ↔ ∃ h : a < F.b.length, f ≤ F.b[a] ∧ (F.b[a] : Int) ≤ t ∧ j = a + 1 := fun j => by
            rw [show Lang (.mk 1 f t mn mx l) = fun w => ∃ c : Nat, w = [c] ∧ f ≤ c ∧ (c : Int) ≤ t from funext (Lang_one f t mn mx l)]; exact At_byte
          have HL := Lib.hid hL
          clear hL
          have HB := hF.B.chgNo H7.out.1.c0
          by_cases hlt : a < F.b.length
          rotate_left
          · as_aux_lemma =>
            have d1 : decide ((a : Int) < (F.b.length : Int)) = false := decide_eq_false (by omega)
            clear HB
            go_wp2
            go_quiet (fail)
            go_wp2
            go_meet
            refine ⟨[], s1, H7.out.1.keepNo ((Chg.refl _ _).drewN _), H7.out.2.1.no ((Chg.refl _ _).drewN _), hlv, hv, hd0, IntsV.nil _ _, by simp, fun j => ?_⟩
            rw [HL.out]
            simp; omega
          · obtain ⟨_, hB1, hB2, hB3⟩ := HB
            obtain ⟨gb, ob, hB4, hB5, hB6⟩ := hB3 (fun e => by rw [e] at hlt; simp at hlt)
            obtain ⟨c, hc⟩ : ∃ c, F.b[a] = c := ⟨_, rfl⟩
            obtain ⟨xc, hc256⟩ := hB6 a c (by rw [List.getElem?_eq_getElem hlt, hc])
            have HC := Lib.hid hc
            have d1 : decide ((a : Int) < (F.b.length : Int)) = true := decide_eq_true (by omega)
            have hz4 : (a : Int) < (F.b.length : Int) := by omega
            rw [hB4] at y0
            clear hB1 hB2 hB3 hB4 hB5 hB6 hc
            have hno : ¬ (f ≤ (c : Int) ∧ (c : Int) ≤ t) → Pls (At (Lang (.mk 1 f t mn mx l)) F.b a) [] := fun hn => ⟨by simp, fun j => by
              rw [HL.out]
              constructor
              · intro h; simp at h
              · rintro ⟨_, h1, h2, _⟩; exact absurd ⟨by rw [← HC.out]; exact h1, by rw [← HC.out]; exact h2⟩ hn⟩
            have HNO := Lib.hid hno
            clear hno
            by_cases q1 : f ≤ (c : Int)
            · have d2 : decide ((c : Int) ≥ f) = true := decide_eq_true q1
              by_cases q2 : (c : Int) ≤ t
              · as_aux_lemma =>
                have d3 : decide ((c : Int) ≤ t) = true := decide_eq_true q2
                go_wp2
                go_quiet (fail)
                go_wp2
                go_meet
                have hc9 : Chg No w7 ((w7.drewN nq).alloc (.cells #[.int .i64 ((a : Int) + 1)] 3)) := ((Chg.refl No w7).drewN nq).alloc _
                refine ⟨[a + 1], s1, H7.out.1.keepNo hc9, H7.out.2.1.no hc9, hlv, hv, hd0, ?_, by simp, fun j => ?_⟩
                · exact (OwI.one (w7.drewN nq) (a + 1) (Nat.le_refl _)).ints.imp fun g hg => H7.out.1.new g hg
                · rw [HL.out]
                  constructor
                  · intro h; exact ⟨hlt, by rw [HC.out]; exact q1, by rw [HC.out]; exact q2, by simpa using h⟩
                  · rintro ⟨_, _, _, h⟩; simp [h]
              · as_aux_lemma =>
                have d3 : decide ((c : Int) ≤ t) = false := decide_eq_false q2
                go_wp2
                go_quiet (fail)
                go_wp2
                go_meet
                exact ⟨[], s1, H7.out.1.keepNo ((Chg.refl _ _).drewN _), H7.out.2.1.no ((Chg.refl _ _).drewN _), hlv, hv, hd0, IntsV.nil _ _, HNO.out (by omega)⟩
            · as_aux_lemma =>
              have d2 : decide ((c : Int) ≥ f) = false := decide_eq_false q1
              go_wp2
              go_quiet (fail)
              go_wp2
              go_meet
              exact ⟨[], s1, H7.out.1.keepNo ((Chg.refl _ _).drewN _), H7.out.2.1.no ((Chg.refl _ _).drewN _), hlv, hv, hd0, IntsV.nil _ _, HNO.out (by omega)⟩
        · as_aux_lemma =>
          have hL : ∀ j, Sts F.b (fun x => x = a) (l.map Lang) j ↔ At (Lang (.mk 2 f t mn mx l)) F.b a j := fun j => by
            rw [show Lang (.mk 2 f t mn mx l) = catsL (l.map Lang) from funext (Lang_two f t mn mx l), Sts_cats _ _ (fun x hx => by omega)]
            constructor
            · rintro ⟨_, rfl, h⟩; exact h
            · intro h; exact ⟨a, rfl, h⟩
          have HL := Lib.hid hL
          clear hL x1 x2 x3 x4
          have hI : IntsV (w7.alloc (.cells #[.int .i64 (a : Int)] 3)) (fun g => s1.T g = 0) (.slice (some ⟨w7.heap.size, 0, none⟩) 1 1) [a] := (OwI.one w7 a (Nat.le_refl _)).ints.imp fun g hg => H7.out.1.new g hg
          have HI := Lib.hid hI
          clear hI
          go_wp2
          go_loopw [8, 9] (fun v8 v9 wr => ∃ (k : Nat) (lk : List Nat) (s2 : NS), k ≤ l.length ∧ v9 = .int .i64 (k : Int) ∧ NetOk wr F s2 ∧ Stp w s wr s2 ∧ s2.lv = s.lv ∧ s2.v = s.v ∧ s2.d i ≠ none ∧ IntsV wr (fun g => s2.T g = 0) v8 lk ∧ Hid (Pls (Sts F.b (fun x => x = a) ((l.take k).map Lang)) lk)) (fun _ v _ => l.length - (intOf v).toNat)
          case atStart => exact ⟨0, [a], s1, by omega, rfl, H7.out.1.keepNo ((Chg.refl _ _).alloc _), H7.out.2.1.no ((Chg.refl _ _).alloc _), hlv, hv, hd0, HI.out, Lib.hid ⟨by simp, fun j => by simp [Sts]⟩⟩
          case round =>
            clear H7 HI y0 y1 y2 y3 y4 y5
            obtain ⟨k, lk, s2, hk, rfl, hN, hS, hlv2, hv2, hd2, hI, HP⟩ := hrel
            obtain ⟨ids, Ak, ck, z0, hT, hids, hKI⟩ := hN.kids ht
            simp only [Ex.l] at z0 hT hids hKI
            obtain ⟨y0, y1, y2, y3, y4, y5⟩ := hN.cells
            have hkl : l.length ≤ 9223372036854775807 := by obtain ⟨_, _, _, q1, q2⟩ := hKI.form; omega
            by_cases hlt : k < l.length
            · as_aux_lemma =>
                obtain ⟨j0, hj0, htj, _, _⟩ := hT.get k l[k] (List.getElem?_eq_getElem hlt)
                obtain ⟨hj1, hj2⟩ := List.getElem?_eq_some_iff.1 hj0
                obtain ⟨gk, ok, ck', ek, z1⟩ := hKI.cell hj1
                rw [hids] at ek
                cases ek
                rw [hj2] at z1
                have hPle : ∀ j, Sts F.b (fun x => x = a) ((l.take k).map Lang) j → j ≤ F.b.length := fun j hj => Sts_le (fun x (hx : x = a) => by omega) _ hj
                have HS := Lib.hid (hSt _ (List.getElem_mem hlt) j0 _ lk _ wr s2 hN htj (hI.imp fun g hg => by omega) HP.out.2 hPle (by have := HP.out.len hPle; omega))
                have hnx : Sts F.b (fun x => x = a) ((l.take (k + 1)).map Lang) = St (Lang l[k]) F.b (Sts F.b (fun x => x = a) ((l.take k).map Lang)) := by
                  rw [List.take_succ_eq_append_getElem hlt, List.map_append]; exact Sts_snoc _
                have HNX := Lib.hid hnx
                have hz8 : (k : Int) < (l.length : Int) := by omega
                have hz7 : (0 : Int) ≤ (k : Int) := by omega
                clear hnx hKI hT hN hj0 hI
                go_wp2_with fail
                refine HS.out.mono ?_
                rintro e w3 ⟨u3, l3, s3, rfl, k1, k2, k3, k4, k5, k6⟩
                go_wp2
                exact ⟨⟨k + 1, l3, s3, by omega, by go_num, k1, hS.trans k2, k3.trans hlv2, k4.trans hv2, k2.d i hd2, k5, Lib.hid (by rw [HNX.out]; exact k6)⟩, by simp [intOf]; omega⟩
            · as_aux_lemma =>
                obtain rfl : k = l.length := by omega
                clear hKI hT
                go_wp2
                go_meet
                refine ⟨lk, s2, hN, hS, hlv2, hv2, hd2, hI, ?_⟩
                have := HP.out
                rw [List.take_length] at this
                exact this.congr HL.out
        · as_aux_lemma =>
          have hL : ∀ j, (∃ y, y ∈ l ∧ At (Lang y) F.b a j) ↔ At (Lang (.mk 3 f t mn mx l)) F.b a j := fun j => by
            rw [show Lang (.mk 3 f t mn mx l) = orL (l.map Lang) from funext (Lang_three f t mn mx l), At_or]
            constructor
            · rintro ⟨y, h1, h2⟩; exact ⟨Lang y, List.mem_map.2 ⟨y, h1, rfl⟩, h2⟩
            · rintro ⟨L, h1, h2⟩
              obtain ⟨y, h3, rfl⟩ := List.mem_map.1 h1
              exact ⟨y, h3, h2⟩
          have HL := Lib.hid hL
          clear hL x1 x2 x3 x4
          have hrow := World.rowIs_made w7 (.bool false) (F.b.length + 1) 4
          obtain ⟨m1, m2, m3⟩ := H7.out.1.mine (w' := w7.alloc (.cells (madeCells #[.bool false] (F.b.length + 1)) 4)) ((Chg.refl _ _).alloc _) (by simp)
          have HI : Hid (NetOk (w7.alloc (.cells (madeCells #[.bool false] (F.b.length + 1)) 4)) F (s1.own w7.heap.size) ∧ Stp w7 s1 (w7.alloc (.cells (madeCells #[.bool false] (F.b.length + 1)) 4)) (s1.own w7.heap.size) ∧ (s1.own w7.heap.size).T w7.heap.size = 1 ∧ (w7.alloc (.cells (madeCells #[.bool false] (F.b.length + 1)) 4)).rowIs w7.heap.size 4 (F.b.length + 1) (fun _ => .bool false)) := Lib.hid ⟨m1, m2, m3, hrow⟩
          clear m1 m2 m3 hrow
          go_wp2
          obtain ⟨Gm, hGm⟩ : ∃ Gm, w7.heap.size = Gm := ⟨_, rfl⟩
          simp only [hGm] at HI ⊢
          go_loopw [11] (fun v11 wr => ∃ (k : Nat) (s' : NS) (f2 : Nat → Bool), k ≤ l.length ∧ v11 = .int .i64 (k : Int) ∧ NetOk wr F s' ∧ Stp w7 s1 wr s' ∧ s'.lv = s1.lv ∧ s'.v = s1.v ∧ s'.T Gm = 1 ∧ wr.rowIs Gm 4 (F.b.length + 1) (fun j => .bool (f2 j)) ∧ Hid (∀ j, j ≤ F.b.length → (f2 j = true ↔ ∃ y, y ∈ l.take k ∧ At (Lang y) F.b a j))) (fun v _ => l.length - (intOf v).toNat)
          case atStart => exact ⟨0, s1.own Gm, fun _ => false, by omega, rfl, HI.out.1, HI.out.2.1, rfl, rfl, HI.out.2.2.1, HI.out.2.2.2, Lib.hid fun j _ => by simp⟩
          case round =>
            clear HI y0 y1 y2 y3 y4 y5
            obtain ⟨k, s', f2, hk, rfl, hN, hS, hlv2, hv2, hT, hR2, HF⟩ := hrel
            obtain ⟨ids, Ak, ck, z0, hTr, hids, hKI⟩ := hN.kids ht
            simp only [Ex.l] at z0 hTr hids hKI
            obtain ⟨y0, y1, y2, y3, y4, y5⟩ := hN.cells
            have hkl : l.length ≤ 9223372036854775807 := by obtain ⟨_, _, _, q1, q2⟩ := hKI.form; omega
            by_cases hlt : k < l.length
            · as_aux_lemma =>
                obtain ⟨j0, hj0, htj, _, _⟩ := hTr.get k l[k] (List.getElem?_eq_getElem hlt)
                obtain ⟨hj1, hj2⟩ := List.getElem?_eq_some_iff.1 hj0
                obtain ⟨gk, ok, ck', ek, z1⟩ := hKI.cell hj1
                rw [hids] at ek
                cases ek
                rw [hj2] at z1
                have HA := Lib.hid (hE _ (List.getElem_mem hlt) j0 a wr s' hN htj ha)
                have hnx : l.take (k + 1) = l.take k ++ [l[k]] := List.take_succ_eq_append_getElem hlt
                obtain ⟨y, hy⟩ : ∃ y, l[k] = y := ⟨_, rfl⟩
                rw [hy] at hnx HA
                have HNX := Lib.hid hnx
                have hz8 : (k : Int) < (l.length : Int) := by omega
                have hz7 : (0 : Int) ≤ (k : Int) := by omega
                clear hnx hKI hTr hN hj0 hy htj
                go_wp2_with fail
                refine HA.out.mono ?_
                rintro e w2 ⟨u2, l2, s2, rfl, k1, k2, k3, k4, k5, k6⟩
                obtain ⟨A2, c2, rfl, hd1, hd2⟩ := k5.form
                have hle2 := k6.le
                have hT2 : s2.T Gm = 1 := (k2.T Gm hR2.lt).trans hT
                have hR3 := rowIs_stp hR2 (by omega) k2
                have HLi := Lib.hid k5
                have H6 := Lib.hid k6
                clear k5 k6 hR2 y0 y1 y2 y3 y4 y5 z0 z1
                go_wp2
                go_loopw [13] (fun v13 wq => ∃ (j : Nat) (f3 : Nat → Bool), j ≤ l2.length ∧ v13 = .int .i64 (j : Int) ∧ Chg (One Gm) w2 wq ∧ wq.rowIs Gm 4 (F.b.length + 1) (fun j => .bool (f3 j)) ∧ Hid (∀ q, q ≤ F.b.length → (f3 q = true ↔ f2 q = true ∨ q ∈ l2.take j))) (fun v _ => l2.length - (intOf v).toNat)
                case atStart => exact ⟨0, f2, by omega, rfl, Chg.refl _ _, hR3, Lib.hid fun q _ => by simp⟩
                case round =>
                  obtain ⟨j, f3, hj, rfl, hC, hR4, HF2⟩ := hrel
                  by_cases hlt2 : j < l2.length
                  · as_aux_lemma =>
                      obtain ⟨g3, o3, c3, e3, z3⟩ := (HLi.out.keep (p' := fun g => s2.T g = 0) hC fun g hg _ => ⟨fun e => by unfold One at e; subst e; omega, hg⟩).cell hlt2
                      cases e3
                      obtain ⟨q, hq⟩ : ∃ q, l2[j] = q := ⟨_, rfl⟩
                      have hqn : q ≤ F.b.length := by rw [← hq]; exact hle2 _ (List.getElem_mem hlt2)
                      have hcq := hR4.cell (i := q) (by omega)
                      have hfq := hR4.frozen q
                      have htq : l2.take (j + 1) = l2.take j ++ [q] := by rw [List.take_succ_eq_append_getElem hlt2, hq]
                      have HTQ := Lib.hid htq
                      have hR5 := hR4.set q (.bool true)
                      have hC4 : Chg (One Gm) w2 (wr.setCell ⟨Gm, q, none⟩ (.bool true)) := hC.setCell _ fun _ => rfl
                      rw [hq] at z3
                      have hz5 : (0 : Int) ≤ (q : Int) := by omega
                      have hz6 : (q : Int) < ((F.b.length : Int) + 1) := by omega
                      clear hq htq
                      go_wp2
                      refine ⟨⟨j + 1, upd f3 q true, by omega, by go_num, hC4, hR5.congr fun r _ => ?_, Lib.hid fun r hr => ?_⟩, by simp [intOf]; omega⟩
                      · unfold upd; split <;> rfl
                      · rw [HTQ.out, List.mem_append, List.mem_singleton]
                        unfold upd
                        by_cases e : r = q
                        · simp [e]
                        · rw [if_neg e, HF2.out r hr]; simp [e]
                  · as_aux_lemma =>
                      obtain rfl : j = l2.length := by omega
                      have hN3 := k1.keep hC fun g e => by unfold One at e; subst e; exact hT2
                      have hgm : w7.heap.size ≤ Gm := by omega
                      have hS3 : Stp w7 s1 wr s2 := (hS.trans k2).mine hC fun g e => by unfold One at e; omega
                      go_wp2
                      refine ⟨⟨k + 1, s2, f3, by omega, by go_num, hN3, hS3, k3.trans hlv2, k4.trans hv2, hT2, hR4, Lib.hid fun r hr => ?_⟩, by simp [intOf]; omega⟩
                      rw [HF2.out r hr, List.take_length, HF.out r hr, HNX.out, H6.out.2 r]
                      constructor
                      · rintro (⟨a', h1, h2⟩ | h1)
                        · exact ⟨a', by simp [h1], h2⟩
                        · exact ⟨y, by simp, h1⟩
                      · rintro ⟨a', h1, h2⟩
                        rcases List.mem_append.1 h1 with h3 | h3
                        · exact .inl ⟨a', h3, h2⟩
                        · obtain rfl : a' = y := by simpa using h3
                          exact .inr h2
            · as_aux_lemma =>
                obtain rfl : k = l.length := by omega
                have hmk := marked_any wr Gm (F.b.length + 1) (F.b.length + 1) f2 hR2 (by omega) (by omega)
                clear hKI hTr
                go_wp2_with fail
                refine hmk.mono ?_
                rintro e w3 ⟨v, rfl, hO, hC3⟩
                have hN3 := hN.keepNo hC3
                have hS3 := hS.no hC3
                go_wp2
                go_meet
                refine ⟨_, s', hN3, H7.out.2.1.trans hS3, hlv2.trans hlv, hv2.trans hv, hS.d i hd0, hO.ints.imp fun g hg => hN.new g hg, markedL_rise _ _, fun j => ?_⟩
                rw [markedL_mem, ← HL.out j]
                constructor
                · rintro ⟨h2, h3⟩
                  obtain ⟨y, h4, h5⟩ := (HF.out j (by omega)).1 h3
                  rw [List.take_length] at h4
                  exact ⟨y, h4, h5⟩
                · rintro ⟨y, h4, h5⟩
                  refine ⟨by have := h5.le; omega, (HF.out j h5.le).2 ⟨y, ?_, h5⟩⟩
                  rw [List.take_length]; exact h4
        · as_aux_lemma =>
          obtain ⟨hl1, hm0, hm1, hmx⟩ : l.length = 1 ∧ 0 ≤ mn ∧ mn ≤ 1000 ∧ (mx = -1 ∨ (mn ≤ mx ∧ mx ≤ 1000)) := by unfold headOk at hh; simp at hh; omega
          obtain ⟨y, rfl⟩ := List.length_eq_one_iff.1 hl1
          have hEy := hE y (by simp)
          have hSy := hSt y (by simp)
          have HMU := Lib.hid (must_of F hF f t mn mx y ⟨hm0, hm1⟩ hSy)
          have HSY := Lib.hid hSy
          have hI : IntsV (w7.alloc (.cells #[.int .i64 (a : Int)] 3)) (fun g => s1.T g = 0) (.slice (some ⟨w7.heap.size, 0, none⟩) 1 1) [a] := (OwI.one w7 a (Nat.le_refl _)).ints.imp fun g hg => H7.out.1.new g hg
          have HA := Lib.hid (HMU.out i a _ _ s1 (H7.out.1.keepNo ((Chg.refl _ _).alloc _)) ht hI ha)
          obtain ⟨F0, hF0⟩ : ∃ F0, Pw (Lang y) F.b (fun x => x = a) mn.toNat = F0 := ⟨_, rfl⟩
          have HF0 := Lib.hid hF0
          rw [hF0] at HA
          have hle0 : ∀ j, F0 j → j ≤ F.b.length := fun j hj => by rw [← hF0] at hj; exact Pw_le (fun x (hx : x = a) => by omega) _ hj
          clear hI hEy hSy hE hSt hF0 hh hrk hl1
          go_wp2_with fail
          refine HA.out.mono ?_
          rintro e w1 ⟨u1, l1, s2, rfl, k1, k2, k3, k4, k5, k6, k7⟩
          obtain ⟨A1, c1, rfl, hd1, hd2⟩ := k5.form
          have hSA : Stp w s w1 s2 := (H7.out.2.1.no ((Chg.refl _ _).alloc _)).trans k2
          have hbG := (H7.out.2.2.1.alloc (.cells #[.int .i64 (a : Int)] 3)).stp (by rw [H7.out.2.2.2]; omega) k2
          have htG : s2.T G = 0 := (k2.T G (H7.out.2.2.1.alloc (.cells #[.int .i64 (a : Int)] 3)).lt).trans H7.out.2.2.2
          clear y0 y1 y2 y3 y4 y5 x1 x2 x3 x4
          obtain ⟨y0, y1, y2, y3, y4, y5⟩ := k1.cells
          have hrow := World.rowIs_made w1 (.bool false) (F.b.length + 1) 4
          obtain ⟨m1, m2, m3⟩ := k1.mine (w' := w1.alloc (.cells (madeCells #[.bool false] (F.b.length + 1)) 4)) ((Chg.refl _ _).alloc _) (by simp)
          have HI := Lib.hid (⟨m1, hSA.trans m2, m3, hrow, hbG.stp (by omega) m2, (m2.T G hbG.lt).trans htG, k5.to (S := No) (s' := s2.own w1.heap.size) ((Chg.refl No w1).alloc (.cells (madeCells #[.bool false] (F.b.length + 1)) 4)) (fun _ e => e.elim) m2.T⟩ : _ ∧ _ ∧ _ ∧ _ ∧ _ ∧ _ ∧ _)
          have hlt1 : w.heap.size ≤ w1.heap.size := hSA.chg.size
          have hd5 := k2.d i hd0
          have K6 := Lib.hid k6
          clear m1 m2 m3 hrow k1 k2 k5 k6 hSA hbG htG H7 HA
          go_wp2
          obtain ⟨Gm, hGm⟩ : ∃ Gm, w1.heap.size = Gm := ⟨_, rfl⟩
          simp only [hGm] at HI hlt1 ⊢
          obtain ⟨w2, hw2⟩ : ∃ w2, w1.alloc (.cells (madeCells #[.bool false] (F.b.length + 1)) 4) = w2 := ⟨_, rfl⟩
          simp only [hw2] at HI ⊢
          clear hw2 y0 y1 y2 y3 y4 y5
          go_loopw [16] (fun v16 wq => ∃ (j : Nat) (f3 : Nat → Bool), j ≤ l1.length ∧ v16 = .int .i64 (j : Int) ∧ Chg (One Gm) w2 wq ∧ wq.rowIs Gm 4 (F.b.length + 1) (fun j => .bool (f3 j)) ∧ Hid (∀ q, q ≤ F.b.length → (f3 q = true ↔ q ∈ l1.take j))) (fun v _ => l1.length - (intOf v).toNat)
          case atStart => exact ⟨0, fun _ => false, by omega, rfl, Chg.refl _ _, HI.out.2.2.2.1, Lib.hid fun q _ => by simp⟩
          case round =>
            obtain ⟨j, f3, hj, rfl, hC, hR4, HF2⟩ := hrel
            have hTm := HI.out.2.2.1
            by_cases hlt2 : j < l1.length
            · as_aux_lemma =>
                obtain ⟨g3, o3, c3, e3, z3⟩ := (HI.out.2.2.2.2.2.2.keep (p' := fun g => (s2.own Gm).T g = 0) hC fun g hg _ => ⟨fun e => by unfold One at e; subst e; omega, hg⟩).cell hlt2
                cases e3
                obtain ⟨q, hq⟩ : ∃ q, l1[j] = q := ⟨_, rfl⟩
                have hqn : q ≤ F.b.length := by rw [← hq]; exact hle0 _ ((K6.out _).1 (List.getElem_mem hlt2))
                have hcq := hR4.cell (i := q) (by omega)
                have hfq := hR4.frozen q
                have htq : l1.take (j + 1) = l1.take j ++ [q] := by rw [List.take_succ_eq_append_getElem hlt2, hq]
                have HTQ := Lib.hid htq
                have hR5 := hR4.set q (.bool true)
                have hC4 : Chg (One Gm) w2 (wr.setCell ⟨Gm, q, none⟩ (.bool true)) := hC.setCell _ fun _ => rfl
                rw [hq] at z3
                have hz5 : (0 : Int) ≤ (q : Int) := by omega
                have hz6 : (q : Int) < ((F.b.length : Int) + 1) := by omega
                clear hq htq
                go_wp2
                refine ⟨⟨j + 1, upd f3 q true, by omega, by go_num, hC4, hR5.congr fun r _ => ?_, Lib.hid fun r hr => ?_⟩, by simp [intOf]; omega⟩
                · unfold upd; split <;> rfl
                · rw [HTQ.out, List.mem_append, List.mem_singleton]
                  unfold upd
                  by_cases e : r = q
                  · simp [e]
                  · rw [if_neg e, HF2.out r hr]; simp [e]
            · as_aux_lemma =>
                obtain rfl : j = l1.length := by omega
                have hN3 := HI.out.1.keep hC fun g e => by unfold One at e; subst e; exact hTm
                have hS3 : Stp w s wr (s2.own Gm) := HI.out.2.1.mine hC fun g e => by unfold One at e; omega
                have hne : G ≠ Gm := fun e => by have := HI.out.2.2.2.2.2.1; rw [e] at this; omega
                have hbG := HI.out.2.2.2.2.1.chg hC hne
                have hIL := HI.out.2.2.2.2.2.2.keep (p' := fun g => (s2.own Gm).T g = 0) hC fun g hg _ => ⟨fun e => by unfold One at e; subst e; omega, hg⟩
                have x3 := (hbG.cell 3).trans rfl
                simp only [List.getElem?_toArray, List.getElem?_cons_zero, List.getElem?_cons_succ] at x3
                have hBf : Bfs (Lang y) F.b F0 0 (fun j => j ≤ F.b.length ∧ f3 j = true) (fun j => j ∈ l1) := by
                  have h0 := Bfs.start (L := Lang y) (b := F.b) F0
                  refine ⟨fun j => ?_, fun j => (K6.out j).trans (h0.F j)⟩
                  rw [← h0.M j]
                  constructor
                  · rintro ⟨h1, h2⟩
                    have := (HF2.out j h1).1 h2
                    rw [List.take_length] at this
                    exact (K6.out j).1 this
                  · intro h1
                    refine ⟨hle0 j h1, (HF2.out j (hle0 j h1)).2 ?_⟩
                    rw [List.take_length]; exact (K6.out j).2 h1
                have hcnt : 0 + (if l1 = [] then 0 else 1) ≤ cntB f3 (F.b.length + 1) := by
                  by_cases e : l1 = []
                  · rw [if_pos e]; omega
                  · rw [if_neg e]
                    obtain ⟨q, r, e2⟩ := List.exists_cons_of_ne_nil e
                    have hq : q ∈ l1 := by rw [e2]; simp
                    have hqn := hle0 q ((K6.out q).1 hq)
                    exact cntB_pos f3 q ((HF2.out q hqn).2 (by rw [List.take_length]; exact hq)) _ (by omega)
                have HST := Lib.hid (⟨hN3, hS3, hR4, hIL, hBf, hcnt, hbG⟩ : _ ∧ _ ∧ _ ∧ _ ∧ _ ∧ _ ∧ _)
                have hlv4 : (s2.own Gm).lv = s.lv := k3.trans hlv
                have hv4 : (s2.own Gm).v = s.v := k4.trans hv
                have hdm : (s2.own Gm).d i ≠ none := hd5
                have htG := HI.out.2.2.2.2.2.1
                clear hN3 hS3 hR4 hIL hBf hcnt hbG hC HF2 K6 HI HMU
                generalize s2.own Gm = s5 at HST hlv4 hv4 hdm htG hTm
                go_wp2
                go_loopw [14, 17] (fun v14 v17 wq => ∃ (r : Nat) (lf : List Nat) (s6 : NS) (M : Nat → Bool), v17 = .int .i64 (mn + (r : Int)) ∧ NetOk wq F s6 ∧ Stp w s wq s6 ∧ s6.lv = s.lv ∧ s6.v = s.v ∧ s6.d i ≠ none ∧ s6.T Gm = 1 ∧ s6.T G = 0 ∧ wq.rowIs Gm 4 (F.b.length + 1) (fun j => .bool (M j)) ∧ IntsV wq (fun g => s6.T g = 0) v14 lf ∧ lf.length ≤ F.b.length + 1 ∧
                  Blk wq G 25 #[.int .i64 4, .int .i64 f, .int .i64 t, .int .i64 mn, .int .i64 mx, .slice Ae [y].length ce] ∧ Hid (Bfs (Lang y) F.b F0 r (fun j => j ≤ F.b.length ∧ M j = true) (fun j => j ∈ lf)) ∧ (mx < 0 ∨ mn + (r : Int) ≤ mx) ∧ r + (if lf = [] then 0 else 1) ≤ cntB M (F.b.length + 1)) (fun _ v _ => (mn.toNat + F.b.length + 2) - (intOf v).toNat)
                case atStart => exact ⟨0, l1, s5, f3, by simp, HST.out.1, HST.out.2.1, hlv4, hv4, hdm, hTm, htG, HST.out.2.2.1, HST.out.2.2.2.1, k7, HST.out.2.2.2.2.2.2, Lib.hid HST.out.2.2.2.2.1, by omega, HST.out.2.2.2.2.2.1⟩
                case round =>
                  clear HST hlv4 hv4 hdm hTm htG x3
                  obtain ⟨r, lf, s6, M, rfl, hN, hS, hlv6, hv6, hd6, hTm, hTG, hR6, hIL, hll, hbG, HBF, hmr, hcnt⟩ := hrel
                  obtain ⟨A14, c14, rfl, hx1, hx2⟩ := hIL.form
                  have x3 := (hbG.cell 3).trans rfl
                  have x4 := (hbG.cell 4).trans rfl
                  simp only [List.getElem?_toArray, List.getElem?_cons_zero, List.getElem?_cons_succ] at x3 x4
                  have hcl := cntB_le M (F.b.length + 1)
                  have HP := Lib.hid (⟨hN, hS, hR6, hIL, hbG⟩ : _ ∧ _ ∧ _ ∧ _ ∧ _)
                  clear hN hS hR6 hIL hbG
                  go_upto_region 16 with fail
                  go_cut [122] from 109 to 122 (fun s122 wx => ∃ zz, IsV s122 (.bool zz) ∧ wx = wr ∧ Hid (zz = true ↔ ((mx < 0 ∨ mn + (r : Int) < mx) ∧ lf ≠ [])))
                  case first =>
                    have hl0 : lf ≠ [] ↔ 0 < lf.length := List.length_pos_iff.symm
                    have HL0 := Lib.hid hl0
                    clear hl0 HP hcnt HBF
                    by_cases q1 : mn + (r : Int) < mx
                    · as_aux_lemma =>
                        go_wp2
                        go_meet
                        exact ⟨decide (0 < lf.length), rfl, by first | trivial | rfl, Lib.hid (by rw [HL0.out, decide_eq_true_iff]; omega)⟩
                    · by_cases q2 : mx < 0
                      · as_aux_lemma =>
                          go_wp2
                          go_meet
                          exact ⟨decide (0 < lf.length), rfl, by first | trivial | rfl, Lib.hid (by rw [HL0.out, decide_eq_true_iff]; omega)⟩
                      · as_aux_lemma =>
                          go_wp2
                          go_meet
                          exact ⟨false, rfl, by first | trivial | rfl, Lib.hid (by simp; omega)⟩
                  case rest =>
                    obtain ⟨zz, h122, hwc, HZZ⟩ := hcut
                    have hwc := hwc.symm
                    subst hwc
                    unfold IsV at h122; subst h122
                    obtain ⟨hN, hS, hR6, hIL, hbG⟩ := HP.out
                    clear HP x3 x4
                    have hmc : ((mn.toNat : Nat) : Int) = mn := Int.toNat_of_nonneg hm0
                    cases zz with
                    | false => as_aux_lemma =>
                        have hmk := marked_any wr Gm (F.b.length + 1) (F.b.length + 1) M hR6 (by omega) (by omega)
                        have he : (¬ (mx < 0 ∨ ((mn.toNat : Nat) : Int) + (r : Int) < mx)) ∨ ∀ j, ¬ j ∈ lf := by
                          rw [hmc]
                          by_cases q : mx < 0 ∨ mn + (r : Int) < mx
                          · right
                            by_cases e : lf = []
                            · rw [e]; simp
                            · exact absurd (HZZ.out.2 ⟨q, e⟩) (by simp)
                          · exact .inl q
                        have hrep := fun j => HBF.out.rep (i := a) (mn := mn.toNat) (c := mx) ha (fun j => by rw [HF0.out]) (by rw [hmc]; exact hmr) he j
                        have hLr : Lang (.mk 4 f t mn mx [y]) = fun w => ∃ m : Nat, ((mn.toNat : Nat) : Int) ≤ m ∧ (mx < 0 ∨ (m : Int) ≤ mx) ∧ powL (Lang y) m w := by
                          funext w; rw [Lang_rp, hmc]
                        have HRE := Lib.hid hrep
                        have HLR := Lib.hid hLr
                        clear hrep hLr he HBF hbG hIL hcnt
                        go_wp2_with fail
                        refine hmk.mono ?_
                        rintro e w3 ⟨v, rfl, hO, hC3⟩
                        have hN3 := hN.keepNo hC3
                        have hS3 := hS.no hC3
                        go_wp2
                        go_meet
                        refine ⟨_, s6, hN3, hS3, hlv6, hv6, hd6, hO.ints.imp fun g hg => hN.new g hg, markedL_rise _ _, fun j => ?_⟩
                        rw [markedL_mem, HLR.out, ← HRE.out j]
                        constructor
                        · rintro ⟨h2, h3⟩; exact ⟨by omega, h3⟩
                        · rintro ⟨h2, h3⟩; exact ⟨by omega, h3⟩
                    | true => as_aux_lemma =>
                        obtain ⟨hq1, hq2⟩ := HZZ.out.1 rfl
                        obtain ⟨ids, Ak, ck, z0, hTr, hids, hKI⟩ := hN.kids ht
                        simp only [Ex.l, List.length_singleton] at z0 hTr hids hKI
                        obtain ⟨y0, y1, y2, y3, y4, y5⟩ := hN.cells
                        obtain ⟨j0, hj0, htj, _, _⟩ := hTr.get 0 y rfl
                        obtain ⟨hj1, hj2⟩ := List.getElem?_eq_some_iff.1 hj0
                        obtain ⟨gk, ok, ck', ek, z1⟩ := hKI.cell hj1
                        rw [hids] at ek
                        cases ek
                        rw [hj2, Nat.add_zero] at z1
                        have hle6 : ∀ j, j ∈ lf → j ≤ F.b.length := fun j hj => Pw_le hle0 r ((HBF.out.F j).1 hj).1
                        have HS := Lib.hid (HSY.out j0 _ lf (fun j => j ∈ lf) wr s6 hN htj (hIL.imp fun g hg => by omega) (fun _ => Iff.rfl) hle6 (by omega))
                        clear hKI hTr hN hj0 hIL
                        go_wp2_with fail
                        refine HS.out.mono ?_
                        rintro e w5 ⟨u3, l3, s7, rfl, k1, k2, k3, k4, k5, k6⟩
                        obtain ⟨A3, c3, rfl, hd1, hd2⟩ := k5.form
                        have hle3 := fun j (hj : j ∈ l3) => St_le ((k6.2 j).1 hj)
                        have hl3 := k6.len fun j hj => St_le hj
                        have hT7 : s7.T Gm = 1 := (k2.T Gm hR6.lt).trans hTm
                        have hT8 : s7.T G = 0 := (k2.T G hbG.lt).trans hTG
                        have hR7 := rowIs_stp hR6 (by omega) k2
                        have hb7 := hbG.stp (by omega) k2
                        have hS7 := hS.trans k2
                        have hd7 := k2.d i hd6
                        have hgG : G ≠ Gm := fun e => by rw [e] at hT8; omega
                        have H5 := Lib.hid (⟨k1, hS7, k5, k6, hb7⟩ : _ ∧ _ ∧ _ ∧ _ ∧ _)
                        have hR0 := hR7
                        clear k1 k2 k5 k6 hS hR6 hb7 hbG hS7 y0 y1 y2 y3 y4 y5 z0 z1 HS
                        go_wp2
                        go_loopw [14, 19] (fun v14 v19 wq => ∃ (j : Nat) (lg : List Nat) (M2 : Nat → Bool), j ≤ l3.length ∧ v19 = .int .i64 (j : Int) ∧ OwI wq w5.heap.size v14 lg ∧ Chg (One Gm) w5 wq ∧ wq.rowIs Gm 4 (F.b.length + 1) (fun j => .bool (M2 j)) ∧ lg.length ≤ j ∧
                          Hid (∀ q, q ≤ F.b.length → (M2 q = true ↔ M q = true ∨ q ∈ lg)) ∧ Hid (∀ q, q ∈ lg ↔ q ∈ l3.take j ∧ ¬ M q = true) ∧ Hid (cntB M2 (F.b.length + 1) = cntB M (F.b.length + 1) + lg.length)) (fun _ v _ => l3.length - (intOf v).toNat)
                        case atStart => exact ⟨0, [], M, by omega, rfl, OwI.nil _ _, Chg.refl _ _, hR0, by simp, Lib.hid fun q _ => by simp, Lib.hid fun q => by simp, Lib.hid (by simp)⟩
                        case round =>
                          clear hR0 hR7
                          obtain ⟨j, lg, M2, hj, rfl, hO, hC, hR8, hlg, HM, HG, HC⟩ := hrel
                          by_cases hlt2 : j < l3.length
                          · obtain ⟨g3, o3, c3', e3, z3⟩ := (H5.out.2.2.1.keep (p' := fun g => s7.T g = 0) hC fun g hg _ => ⟨fun e => by unfold One at e; subst e; omega, hg⟩).cell hlt2
                            cases e3
                            obtain ⟨q, hq⟩ : ∃ q, l3[j] = q := ⟨_, rfl⟩
                            have hqn : q ≤ F.b.length := by rw [← hq]; exact hle3 _ (List.getElem_mem hlt2)
                            have hcq := hR8.cell (i := q) (by omega)
                            have hfq := hR8.frozen q
                            have htq : l3.take (j + 1) = l3.take j ++ [q] := by rw [List.take_succ_eq_append_getElem hlt2, hq]
                            have HTQ := Lib.hid htq
                            rw [hq] at z3
                            have hz5 : (0 : Int) ≤ (q : Int) := by omega
                            have hz6 : (q : Int) < ((F.b.length : Int) + 1) := by omega
                            obtain ⟨d, hd⟩ : ∃ d, M2 q = d := ⟨_, rfl⟩
                            have HD := Lib.hid hd
                            have HQ := Lib.hid hq
                            rw [hd] at hcq
                            clear hq htq hd
                            have hzw := hC.size
                            cases d with
                            | true => as_aux_lemma =>
                                go_wp2
                                refine ⟨⟨j + 1, lg, M2, by omega, by go_num, hO, hC, hR8, by omega, HM, Lib.hid fun p => ?_, HC⟩, by simp [intOf]; omega⟩
                                rw [HG.out p, HTQ.out, List.mem_append, List.mem_singleton]
                                constructor
                                · rintro ⟨h1, h2⟩; exact ⟨.inl h1, h2⟩
                                · rintro ⟨h1 | rfl, h2⟩
                                  · exact ⟨h1, h2⟩
                                  · rcases (HM.out p hqn).1 HD.out with h3 | h3
                                    · exact absurd h3 h2
                                    · exact (HG.out p).1 h3
                            | false => as_aux_lemma =>
                                have hR9 := hR8.set q (.bool true)
                                have hC9 : Chg (One Gm) w5 (wr.setCell ⟨Gm, q, none⟩ (.bool true)) := hC.setCell _ fun _ => rfl
                                have hOlt := hO.lt
                                have hgw : Gm < w5.heap.size := by
                                  rcases Nat.lt_or_ge Gm w5.heap.size with h1 | h1
                                  · exact h1
                                  · have := H5.out.1.new Gm h1; omega
                                have hO9 : OwI (wr.setCell ⟨Gm, q, none⟩ (.bool true)) w5.heap.size u14 lg := hO.chg ((Chg.refl (One Gm) wr).setCell (p := ⟨Gm, q, none⟩) _ fun _ => rfl) fun k hk e => by have := (hOlt k hk).1; unfold One at e; omega
                                obtain ⟨g9, o9, c9, e9, z9⟩ := (H5.out.2.2.1.keep (p' := fun g => s7.T g = 0) hC9 fun g hg _ => ⟨fun e => by unfold One at e; subst e; omega, hg⟩).cell hlt2
                                cases e9
                                rw [HQ.out] at z9
                                go_wp2_with (at_builtin; refine wpList_append_int rfl _ _ rfl w5.heap.size _ _ rfl (hO9.chgNo ((Chg.refl No _).alloc _)) _ 1 q rfl (Blk.new' (by simp [World.setCell])) (by first | omega | (simp; omega)) (by first | omega | (simp [World.setCell]; omega)) ?_; intro v' w9 hO' hgr hat)
                                have h89 : Chg (fun p => some p = u14.ownBlock) _ w9 := ((Chg.refl _ _).alloc _).then_ (Chg.of_grown (S := fun p => some p = _) hgr fun p e _ => e.symm) fun p _ e => e
                                have hng : ¬ some Gm = u14.ownBlock := fun e => by have := (hOlt _ e.symm).1; omega
                                refine ⟨⟨j + 1, lg ++ [q], upd M2 q true, by omega, by go_num, hO', hC9.then_ h89 fun p hp e => by have := (hOlt _ e.symm).1; omega, ?_, by simp; omega, Lib.hid fun p hp => ?_, Lib.hid fun p => ?_, Lib.hid ?_⟩, by simp [intOf]; omega⟩
                                · exact (hR9.of_block (h89.block Gm hR9.lt hng)).congr fun p _ => by unfold upd; split <;> rfl
                                · unfold upd
                                  by_cases e : p = q
                                  · simp [e]
                                  · rw [if_neg e, HM.out p hp]; simp [e]
                                · rw [HTQ.out, List.mem_append, List.mem_append, List.mem_singleton, HG.out p]
                                  constructor
                                  · rintro (⟨h1, h2⟩ | rfl)
                                    · exact ⟨.inl h1, h2⟩
                                    · refine ⟨.inr rfl, fun h3 => ?_⟩
                                      have := (HM.out p hqn).2 (.inl h3)
                                      rw [HD.out] at this; cases this
                                  · rintro ⟨h1 | rfl, h2⟩
                                    · exact .inl ⟨h1, h2⟩
                                    · exact .inr rfl
                                · rw [cntB_upd M2 q HD.out _ (by omega), HC.out]; simp; omega
                          · as_aux_lemma =>
                              obtain rfl : j = l3.length := by omega
                              have hN9 := H5.out.1.keep hC fun g e => by unfold One at e; subst e; exact hT7
                              have hS9 : Stp w s wr s7 := H5.out.2.1.mine hC fun g e => by unfold One at e; omega
                              have hb9 := H5.out.2.2.2.2.chg hC hgG
                              have hI9 : IntsV wr (fun g => s7.T g = 0) u14 lg := hO.ints.imp fun g hg => H5.out.1.new g hg
                              have hmem : ∀ q, q ∈ lg ↔ St (Lang y) F.b (fun j => j ∈ lf) q ∧ ¬ (q ≤ F.b.length ∧ M q = true) := fun q => by
                                rw [HG.out q, List.take_length, H5.out.2.2.2.1.2 q]
                                constructor
                                · rintro ⟨h1, h2⟩; exact ⟨h1, fun h3 => h2 h3.2⟩
                                · rintro ⟨h1, h2⟩; exact ⟨h1, fun h3 => h2 ⟨St_le h1, h3⟩⟩
                              have hB9 := HBF.out.next (M' := fun j => j ≤ F.b.length ∧ M2 j = true) (F' := fun j => j ∈ lg) hmem fun j => by
                                constructor
                                · rintro ⟨h1, h2⟩
                                  rcases (HM.out j h1).1 h2 with h3 | h3
                                  · exact .inl ⟨h1, h3⟩
                                  · exact .inr h3
                                · rintro (⟨h1, h2⟩ | h2)
                                  · exact ⟨h1, (HM.out j h1).2 (.inl h2)⟩
                                  · have h1 : j ≤ F.b.length := St_le ((hmem j).1 h2).1
                                    exact ⟨h1, (HM.out j h1).2 (.inr h2)⟩
                              have hc9 : (r + 1) + (if lg = [] then 0 else 1) ≤ cntB M2 (F.b.length + 1) := by
                                rw [HC.out]
                                rw [if_neg hq2] at hcnt
                                by_cases e : lg = []
                                · rw [if_pos e]; omega
                                · have := List.length_pos_iff.2 e
                                  rw [if_neg e]; omega
                              have HR := Lib.hid (⟨hN9, hS9, hb9, hI9, hB9, hc9⟩ : _ ∧ _ ∧ _ ∧ _ ∧ _ ∧ _)
                              have hcl2 := cntB_le M2 (F.b.length + 1)
                              have hr1 : r + 1 ≤ F.b.length + 1 := by rw [if_neg hq2] at hcnt; omega
                              clear hN9 hS9 hb9 hI9 hB9 hc9 hmem hcnt HM HG HC HBF
                              go_wp2
                              refine ⟨⟨r + 1, lg, s7, M2, congrArg (Value.int .i64) (by omega), HR.out.1, HR.out.2.1, k3.trans hlv6, k4.trans hv6, hd7, hT7, hT8, hR8, HR.out.2.2.2.1, by omega, HR.out.2.2.1, Lib.hid HR.out.2.2.2.2.1, by omega, HR.out.2.2.2.2.2⟩, ?_⟩
                              simp [intOf]; omega
      case rest =>
        as_aux_lemma =>
          clear H7 HZ HN hmkb hmks
          obtain ⟨l, s2, hN2, hS2, hlv2, hv2, hd2, hL, hP⟩ := hcut
          obtain ⟨A8, c8, rfl, _, _⟩ := hL.form
          obtain ⟨gd, hd⟩ := Option.ne_none_iff_exists'.1 hd2
          obtain ⟨gx, hx⟩ := Option.ne_none_iff_exists'.1 (fun e => hd2 ((hN2.dx i).2 e))
          obtain ⟨y0, y1, y2, y3, y4, y5⟩ := hN2.cells
          have hdc : wc.cell? ⟨F.gD, i, none⟩ = some (rowOf F.b.length (s2.d i)) := (hN2.D.2 i hil).1
          have hxc : wc.cell? ⟨F.gX, i, none⟩ = some (rowOf F.b.length (s2.x i)) := (hN2.X.2 i hil).1
          rw [hd] at hdc
          rw [hx] at hxc
          simp only [rowOf] at hdc hxc
          obtain ⟨td, hDr⟩ := hN2.dr i gd hd
          obtain ⟨tx, f2, hXr, hER⟩ := hN2.xr i x gx ht.node hx
          obtain ⟨hda, hdf⟩ := hDr.2 a (by omega)
          obtain ⟨hxa, hxf⟩ := hXr.2 a (by omega)
          have n1 : gd ≠ F.m := fun e => by have := hN2.tm; rw [e] at td; omega
          have n2 : gd ≠ F.gX := fun e => by have := hN2.tX; rw [e] at td; omega
          have n3 : gd ≠ gx := fun e => by rw [e] at td; omega
          have m1 := n1.symm
          have m2 := n2.symm
          have m3 := n3.symm
          have c1 : Chg (One gd) wc (wc.setCell ⟨gd, a, none⟩ (.bool true)) := (Chg.refl _ _).setCell (p := ⟨gd, a, none⟩) _ fun _ => rfl
          have c2 : Chg (One gx) (wc.setCell ⟨gd, a, none⟩ (.bool true)) ((wc.setCell ⟨gd, a, none⟩ (.bool true)).setCell ⟨gx, a, none⟩ (.slice A8 l.length c8)) := (Chg.refl _ _).setCell (p := ⟨gx, a, none⟩) _ fun _ => rfl
          have c3 : Chg (fun k => k = gd ∨ k = gx) wc ((wc.setCell ⟨gd, a, none⟩ (.bool true)).setCell ⟨gx, a, none⟩ (.slice A8 l.length c8)) := (c1.mono fun k _ e => .inl e).then_ c2 fun k _ e => .inr e
          have k1 := hN2.know ht.node hd hx c3 hER ((hDr.set a (by omega) (.bool true)).chg c2 n3) ((hXr.chg c1 m3).set a (by omega) _) hL hP
          have k2 := hS2.trans (Stp.know hN2 ht.node hd hx c3 (upd s2.kn i (upd (s2.kn i) a true)))
          have k3 := hL.to (s' := { s2 with kn := upd s2.kn i (upd (s2.kn i) a true) }) c3 (by rintro k (rfl | rfl) <;> omega) fun _ _ => rfl
          have HQ := Lib.hid (⟨k1, k2, k3, hP⟩ : _ ∧ _ ∧ _ ∧ _)
          clear k1 k2 k3 hP c1 c2 c3 hER hXr hDr hL hN2 hS2 hd hx td tx
          obtain ⟨fv, hfv⟩ : ∃ v, f2 a = v := ⟨_, rfl⟩
          rw [hfv] at hxa
          clear hfv
          go_wp2
          go_ret
          exact ⟨_, l, _, rfl, HQ.out.1, HQ.out.2.1, hlv2, hv2, HQ.out.2.2.1, HQ.out.2.2.2⟩
end Go.Proofs.YticipgjbgcdccaaDoor
