/- The reference's net: alive, live: contracts.
   The reference's net: within: contract. -/
import Derived.Test.YticipgjbgcdccaaDoorZ17
set_option linter.unusedSimpArgs false
set_option linter.unusedVariables false
namespace Go.Proofs.YticipgjbgcdccaaDoor
open Go.RowKit

/-- a value's row of answers, new -/
theorem NetOk.vrow {w w' : World} {F : NF} {s : NS} (h : NetOk w F s) {i g1 : Nat} (hc : Chg (One F.gV) w w') (hg1 : w.heap.size ≤ g1)
    (hV : Arr w' F.gV F.es.length (fun j => if j = i then rowOf F.b.length (some g1) else rowOf F.b.length (s.v j))) (h1 : Arr w' g1 (F.b.length + 1) (fun _ => .int .i64 0)) :
    NetOk w' F { s with T := upd s.T g1 (7 + 3 * i), v := upd s.v i (some g1), lv := upd s.lv i (fun _ => 0) } ∧ Stp w s w' { s with T := upd s.T g1 (7 + 3 * i), v := upd s.v i (some g1), lv := upd s.lv i (fun _ => 0) } := by
  have hsz := hc.size
  have hS : ∀ k, One F.gV k → s.T k ≠ 0 := by
    rintro k rfl
    rw [h.tV]; omega
  have hz : ∀ k, k < w.heap.size → upd s.T g1 (7 + 3 * i) k = s.T k := fun k hk => upd_ne _ _ (by omega)
  have ar : ∀ {g n : Nat} {f : Nat → Value}, s.T g ≠ 4 → Arr w g n f → Arr w' g n f := fun h1 ha => ha.chg hc (by
    rintro rfl
    exact h1 h.tV)
  have hnew : ∀ k, w'.heap.size ≤ k → upd s.T g1 (7 + 3 * i) k = 0 := fun k hk => by
    have := h1.1
    exact (upd_ne _ _ (by omega)).trans (h.new k (by omega))
  refine ⟨h.mk' (s' := { s with T := upd s.T g1 (7 + 3 * i), v := upd s.v i (some g1), lv := upd s.lv i (fun _ => 0) }) hc hS hz hnew (ar (by rw [h.tX]; omega) h.X) (ar (by rw [h.tD]; omega) h.D) (hV.congr fun j _ => ?_) ?_ ?_ ?_ h.dx, ?_⟩
  · simp only [upd]; split <;> rfl
  · intro j g hg
    obtain ⟨k1, k2⟩ := h.dr j g hg
    exact ⟨(hz g k2.1).trans k1, ar (by omega) k2⟩
  · intro j y g hy hg
    obtain ⟨k1, f', k2, k3⟩ := h.xr j y g hy hg
    exact ⟨(hz g k2.1).trans k1, f', ar (by omega) k2, EndsRow.to (s' := { s with T := upd s.T g1 (7 + 3 * i) }) k3 hc hS hz⟩
  · intro j g hg
    by_cases e : j = i
    · subst e
      obtain rfl : g1 = g := by simp only [upd, if_true] at hg; exact Option.some.inj hg
      refine ⟨upd_same _ _ _, h1.congr fun k _ => ?_⟩
      simp only [upd, if_true]; rfl
    · simp only [upd, if_neg e] at hg
      obtain ⟨k1, k2⟩ := h.vr j g hg
      refine ⟨(hz g k2.1).trans k1, (ar (by omega) k2).congr fun k _ => ?_⟩
      simp only [upd, if_neg e]
  · refine ⟨hc.mono fun k _ e => by
      have : k = F.gV := e
      subst this
      rw [h.tV]; omega, hz, fun _ h => h, fun j hj => ?_⟩
    by_cases e : j = i
    · subst e; simp [upd]
    · simp only [upd, if_neg e]; exact hj
/-- an answer is written -/
theorem NetOk.lset {w w' : World} {F : NF} {s : NS} (h : NetOk w F s) {i gv a c : Nat} (hv : s.v i = some gv) (hc : Chg (One gv) w w') (hV : Arr w' gv (F.b.length + 1) (fun j => if j = a then .int .i64 (c : Int) else .int .i64 (s.lv i j : Int))) :
    NetOk w' F { s with lv := upd s.lv i (upd (s.lv i) a c) } ∧ Stp w s w' { s with lv := upd s.lv i (upd (s.lv i) a c) } := by
  obtain ⟨tv, _⟩ := h.vr i gv hv
  have hS : ∀ k, One gv k → s.T k ≠ 0 := by
    rintro k rfl
    omega
  have ar : ∀ {g n : Nat} {f : Nat → Value}, s.T g ≠ 7 + 3 * i → Arr w g n f → Arr w' g n f := fun h1 ha => ha.chg hc (by
    rintro rfl
    exact h1 tv)
  have hnew : ∀ k, w'.heap.size ≤ k → s.T k = 0 := fun k hk => h.new k (by have := hc.size; omega)
  refine ⟨h.mk' (s' := { s with lv := upd s.lv i (upd (s.lv i) a c) }) hc hS (fun _ _ => rfl) hnew (ar (by rw [h.tX]; omega) h.X) (ar (by rw [h.tD]; omega) h.D) (ar (by rw [h.tV]; omega) h.V) ?_ ?_ ?_ h.dx, ?_⟩
  · intro j g hg
    obtain ⟨k1, k2⟩ := h.dr j g hg
    exact ⟨k1, ar (by omega) k2⟩
  · intro j y g hy hg
    obtain ⟨k1, f', k2, k3⟩ := h.xr j y g hy hg
    exact ⟨k1, f', ar (by omega) k2, EndsRow.to (s' := s) k3 hc hS fun _ _ => rfl⟩
  · intro j g hg
    by_cases e : j = i
    · subst e
      obtain rfl : gv = g := by rw [hv] at hg; exact Option.some.inj hg
      refine ⟨tv, hV.congr fun k _ => ?_⟩
      simp only [upd, if_true]
      split <;> rfl
    · obtain ⟨k1, k2⟩ := h.vr j g hg
      refine ⟨k1, (ar (by omega) k2).congr fun k _ => ?_⟩
      simp only [upd, if_neg e]
  · exact ⟨hc.mono fun k _ e => by
      have : k = gv := e
      subst this
      omega, fun _ _ => rfl, fun _ h => h, fun _ h => h⟩

/-- the answers that are known are right -/
def LvOk (F : NF) (s : NS) (lo hi : Nat) : Prop := ∀ (j : Nat) (x : Ex), lo ≤ j → j < hi → F.es[j]? = some x → ∀ a, a ≤ F.b.length → s.lv j a = 0 ∨ (s.lv j a = 1 ∧ ¬ Lv (Lang x) F.b a) ∨ (s.lv j a = 2 ∧ Lv (Lang x) F.b a)
theorem LvOk.sub {F : NF} {s : NS} {lo hi lo' hi' : Nat} (h : LvOk F s lo hi) (h1 : lo ≤ lo') (h2 : hi' ≤ hi) : LvOk F s lo' hi' := fun j x k1 k2 => h j x (by omega) (by omega)
/-- the same numbers but of a part, which are right too -/
theorem LvOk.part {F : NF} {s s' : NS} {lo hi lo' hi' : Nat} (h : LvOk F s lo hi) (h' : LvOk F s' lo' hi') (he : ∀ j, (j < lo' ∨ hi' ≤ j) → s'.lv j = s.lv j) : LvOk F s' lo hi := fun j x k1 k2 => by
  by_cases q : lo' ≤ j ∧ j < hi'
  · exact h' j x q.1 q.2
  · rw [he j (by omega)]; exact h j x k1 k2
/-- what a question of life leaves -/
def LPost (F : NF) (lo hi : Nat) (w : World) (s : NS) (P : Prop) (e : Ending) (w' : World) : Prop :=
  ∃ (z : Bool) (s' : NS), e = .returned (.bool z) ∧ (z = true ↔ P) ∧ NetOk w' F s' ∧ Stp w s w' s' ∧ LvOk F s' lo hi ∧ ∀ j, (j < lo ∨ hi ≤ j) → s'.lv j = s.lv j
def LiveC (F : NF) (x : Ex) : Prop := ∀ (i a : Nat) (w : World) (s : NS), NetOk w F s → TreeAt F.es F.ks x i → a ≤ F.b.length → LvOk F s i (i + nodesP x) →
  Calls Tryd.prog 63 #[.pointer (some ⟨F.m, 0, none⟩), .int .i64 (i : Int), .int .i64 (a : Int)] w fun e w' => LPost F i (i + nodesP x) w s (Lv (Lang x) F.b a) e w'
def WithinC (F : NF) (x : Ex) : Prop := ∀ (i a : Nat) (w : World) (s : NS), NetOk w F s → TreeAt F.es F.ks x i → a < F.b.length → LvOk F s (i + 1) (i + nodesP x) →
  Calls Tryd.prog 100 #[.pointer (some ⟨F.m, 0, none⟩), .int .i64 (i : Int), .int .i64 (a : Int)] w fun e w' => LPost F (i + 1) (i + nodesP x) w s (Lv (Lang x) F.b a) e w'
def AliveC (F : NF) (x : Ex) : Prop := ∀ (i : Nat) (u : Value) (l : List Nat) (w : World) (s : NS), NetOk w F s → TreeAt F.es F.ks x i → IntsV w (fun g => s.T g ≤ 1) u l → (∀ j ∈ l, j ≤ F.b.length) → LvOk F s i (i + nodesP x) →
  Calls Tryd.prog 124 #[.pointer (some ⟨F.m, 0, none⟩), .int .i64 (i : Int), u] w fun e w' => LPost F i (i + nodesP x) w s (∃ j, j ∈ l ∧ Lv (Lang x) F.b j) e w'

set_option maxHeartbeats 1000000 in
set_option maxRecDepth 100000 in
theorem alive_of (F : NF) (x : Ex) (hL : LiveC F x) : AliveC F x := by
  intro i u l w s h ht hu hle hlv
  obtain ⟨A, c, rfl, hc1, hc2⟩ := hu.form
  have HI := Lib.hid (⟨h, hu, hlv⟩ : _ ∧ _ ∧ _)
  clear h hu hlv
  go_enter Tryd.func124, Tryd.ntmps124
  go_wp2
  go_loopw [7] (fun v7 wr => ∃ (k : Nat) (s' : NS), k ≤ l.length ∧ v7 = .int .i64 (k : Int) ∧ NetOk wr F s' ∧ Stp w s wr s' ∧ LvOk F s' i (i + nodesP x) ∧ (∀ j, (j < i ∨ i + nodesP x ≤ j) → s'.lv j = s.lv j) ∧ Hid (∀ j, j ∈ l.take k → ¬ Lv (Lang x) F.b j)) (fun v _ => l.length - (intOf v).toNat)
  case atStart => exact ⟨0, s, by omega, rfl, HI.out.1, Stp.refl _ _, HI.out.2.2, fun _ _ => rfl, Lib.hid fun j hj => by simp at hj⟩
  case round =>
    obtain ⟨k, s', hk, rfl, hN, hS, hLv, hfr, HD⟩ := hrel
    by_cases hlt : k < l.length
    · obtain ⟨g, o, c', e1, z⟩ := (HI.out.2.1.stp (c := 1) (by omega) hS).cell hlt
      cases e1
      have HA := Lib.hid (hL i l[k] wr s' hN ht (hle _ (List.getElem_mem hlt)) hLv)
      have hta : l.take (k + 1) = l.take k ++ [l[k]] := List.take_succ_eq_append_getElem hlt
      have hmem : l[k] ∈ l := List.getElem_mem hlt
      obtain ⟨a, ha⟩ : ∃ a, l[k] = a := ⟨_, rfl⟩
      rw [ha] at z HA hta hmem
      have HTA := Lib.hid hta
      clear hta ha hN hLv
      go_wp2_with fail
      refine HA.out.mono ?_
      rintro e w2 ⟨zz, s2, rfl, hzz, k1, k2, k3, k4⟩
      have HZ := Lib.hid hzz
      clear hzz
      cases zz with
      | true =>
        go_wp2
        go_ret
        exact ⟨true, s2, rfl, ⟨fun _ => ⟨a, hmem, HZ.out.1 (by first | rfl | trivial)⟩, fun _ => rfl⟩, k1, hS.trans k2, k3, fun j hj => (k4 j hj).trans (hfr j hj)⟩
      | false =>
        go_wp2
        refine ⟨⟨k + 1, s2, by omega, by go_num, k1, hS.trans k2, k3, fun j hj => (k4 j hj).trans (hfr j hj), Lib.hid fun j hj => ?_⟩, by simp [intOf]; omega⟩
        rw [HTA.out] at hj
        rcases List.mem_append.1 hj with h1 | h1
        · exact HD.out j h1
        · obtain rfl : j = a := by simpa using h1
          exact fun h2 => absurd (HZ.out.2 h2) (by simp)
    · obtain rfl : k = l.length := by omega
      go_wp2
      go_ret
      refine ⟨false, s', rfl, ⟨fun h => absurd h (by simp), fun ⟨j, h1, h2⟩ => absurd h2 (HD.out j (by rw [List.take_length]; exact h1))⟩, hN, hS, hLv, hfr⟩
/-- a value's kids in memory, their numbers known -/
theorem NetOk.kidsAt {w : World} {F : NF} {s : NS} (h : NetOk w F s) {i n : Nat} {ids : List Nat} (hk : F.ks[i]? = some ids) (hn : ids.length = n) : ∃ A c, w.cell? ⟨F.gK, i, none⟩ = some (.slice A n c) ∧ n ≤ 9223372036854775807 ∧
    ∀ (k j : Nat), ids[k]? = some j → ∃ g o, A = some ⟨g, o, none⟩ ∧ w.cell? ⟨g, o + k, none⟩ = some (.int .i64 (j : Int)) := by
  subst hn
  obtain ⟨u, h3, h4⟩ := h.K i ids hk
  obtain ⟨A, c, rfl, h5, h6⟩ := h4.form
  refine ⟨A, c, h3, by omega, fun k j hj => ?_⟩
  obtain ⟨h7, h8⟩ := List.getElem?_eq_some_iff.1 hj
  obtain ⟨g, o, c', e, z⟩ := h4.cell h7
  injection e with e1 e2 e3
  exact ⟨g, o, e1, by rw [z, h8]⟩
theorem lives_row (w : World) (n : Nat) (o : Option Nat) : (binOp .eql 88 (rowOf n o) (.slice none 0 0)).run Tryd.prog w = .ok (.bool o.isNone) w := by
  cases o with
  | none => exact Lib.run_eql_slice_nil w _ _ none 0 0 0 0 Tryd.underlying88
  | some g => exact Lib.run_eql_slice_nil w _ _ (some ⟨g, 0, none⟩) (n + 1) (n + 1) 0 0 Tryd.underlying88

set_option maxHeartbeats 4000000 in
set_option maxRecDepth 100000 in
theorem live_of (F : NF) (hF : NFok F) (x : Ex) (hR : rightP x = true) (hW : WithinC F x) : LiveC F x := by
  intro i a w s h ht ha hlv
  have hil : i < F.es.length := ht.lt
  have hn9 := hF.n
  obtain ⟨y0, y1, y2, y3, y4, y5⟩ := h.cells
  have hnp := nodesP_pos x
  by_cases han : a = F.b.length
  · have HN := Lib.hid h
    have hLv : Lv (Lang x) F.b a := (Lv_end (by omega)).2 (Lang_ne hR)
    have e1 : ((a : Int) == (F.b.length : Int)) = true := by simp [han]
    have HL := Lib.hid hLv
    clear hLv h han
    go_enter Tryd.func63, Tryd.ntmps63
    go_wp2
    go_ret
    exact ⟨true, s, rfl, ⟨fun _ => HL.out, fun _ => rfl⟩, HN.out, Stp.refl _ _, hlv, fun _ _ => rfl⟩
  · have halt : a < F.b.length := by omega
    have e1 : ((a : Int) == (F.b.length : Int)) = false := by simp; omega
    have hvc : w.cell? ⟨F.gV, i, none⟩ = some (rowOf F.b.length (s.v i)) ∧ w.frozen? ⟨F.gV, i, none⟩ = false := h.V.2 i hil
    obtain ⟨hvc1, hvc2⟩ := hvc
    have hz0 : (0 : Int) ≤ (i : Int) := by omega
    have hz1 : (i : Int) < (F.es.length : Int) := by omega
    have hmki := fun w => make_ints w F.b.length (by omega)
    have hq := fun w => lives_row w F.b.length (s.v i)
    have hqg := fun w t x y => guard_row w F.b.length (s.v i) t x y
    obtain ⟨z, hz⟩ : ∃ z, (s.v i).isNone = z := ⟨_, rfl⟩
    rw [hz] at hq
    have HZ := Lib.hid hz
    obtain ⟨rv, hrv⟩ : ∃ v, rowOf F.b.length (s.v i) = v := ⟨_, rfl⟩
    rw [hrv] at hq hvc1
    simp only [hrv] at hqg
    have HN := Lib.hid (⟨h, hlv⟩ : _ ∧ _)
    clear hrv hz h hlv han
    go_enter Tryd.func63, Tryd.ntmps63
    go_upto_if 21 with fail
    go_cut [] (fun wx => ∃ s1, NetOk wx F s1 ∧ Stp w s wx s1 ∧ LvOk F s1 i (i + nodesP x) ∧ (∀ j, (j < i ∨ i + nodesP x ≤ j) → s1.lv j = s.lv j) ∧ s1.v i ≠ none)
    case first =>
      cases z with
      | false =>
        go_wp2
        go_meet
        exact ⟨s, HN.out.1, Stp.refl _ _, HN.out.2, fun _ _ => rfl, fun e => by have := HZ.out; rw [e] at this; cases this⟩
      | true =>
        have hv : s.v i = none := Option.isNone_iff_eq_none.1 HZ.out
        have hbW : ∀ j, j < 6 → (w.alloc (.cells (madeCells #[.int .i64 0] (F.b.length + 1)) 3)).cell? ⟨F.m, j, none⟩ = w.cell? ⟨F.m, j, none⟩ := fun j _ => by
          unfold World.cell?
          rw [Below.heap_alloc w _ F.m HN.out.1.m.lt]
        have x0 := (hbW 0 (by omega)).trans y0
        have x5 := (hbW 5 (by omega)).trans y5
        have hVW : Arr (w.alloc (.cells (madeCells #[.int .i64 0] (F.b.length + 1)) 3)) F.gV F.es.length (fun j => rowOf F.b.length (s.v j)) := HN.out.1.V.chg ((Chg.refl No w).alloc _) id
        obtain ⟨xd1, xd2⟩ := hVW.2 i hil
        have hrow := World.rowIs_made w (.int .i64 0) (F.b.length + 1) 3
        have hne : w.heap.size ≠ F.gV := by have := HN.out.1.V.1; omega
        have HVW := Lib.hid hVW
        have HR := Lib.hid hrow
        clear hbW hVW hrow hv hq hqg
        go_wp2
        go_region
        all_goals
          go_wp2
          go_meet
          have c2 : Chg (One F.gV) w (((w.alloc (.cells (madeCells #[.int .i64 0] (F.b.length + 1)) 3)).setCell ⟨F.gV, i, none⟩ (.slice (some ⟨w.heap.size, 0, none⟩) (F.b.length + 1) (F.b.length + 1))).drew) := (((Chg.refl (One F.gV) w).alloc _).setCell (p := ⟨F.gV, i, none⟩) _ fun _ => rfl).drew
          obtain ⟨k1, k2⟩ := HN.out.1.vrow (i := i) (g1 := w.heap.size) c2 (Nat.le_refl _) ((HVW.out.set i hil _).chg ((Chg.refl No _).drew) id) (((Arr.of_row HR.out).chg (S := One F.gV) ((Chg.refl _ _).setCell (p := ⟨F.gV, i, none⟩) _ fun _ => rfl) hne).chg ((Chg.refl No _).drew) id)
          refine ⟨_, k1, k2, fun j y q1 q2 q3 b hb => ?_, fun j hj => upd_ne _ _ (by omega), by simp [upd]⟩
          by_cases e : j = i
          · left; simp [upd, e]
          · simp only [upd, if_neg e]; exact HN.out.2 j y q1 q2 q3 b hb
    case rest =>
      clear y0 y1 y2 y3 y4 y5 hvc1 hvc2 hq hqg HZ HN
      obtain ⟨s1, hN, hS, hLv, hfr, hv0⟩ := hcut
      obtain ⟨gv, hv⟩ := Option.ne_none_iff_exists'.1 hv0
      obtain ⟨y0, y1, y2, y3, y4, y5⟩ := hN.cells
      have hvc : wc.cell? ⟨F.gV, i, none⟩ = some (rowOf F.b.length (s1.v i)) := (hN.V.2 i hil).1
      rw [hv] at hvc
      simp only [rowOf] at hvc
      obtain ⟨tv, hVr⟩ := hN.vr i gv hv
      have hva : wc.cell? ⟨gv, a, none⟩ = some (.int .i64 (s1.lv i a : Int)) := (hVr.2 a (by omega)).1
      have hvf := (hVr.2 a (by omega)).2
      have hz2 : (0 : Int) ≤ (a : Int) := by omega
      have hz3 : (a : Int) < ((F.b.length : Int) + 1) := by omega
      have hLa := hLv i x (Nat.le_refl _) (by omega) ht.node a ha
      obtain ⟨c0, hc0⟩ : ∃ c, s1.lv i a = c := ⟨_, rfl⟩
      rw [hc0] at hLa hva
      have HC := Lib.hid hc0
      clear hc0
      rcases hLa with rfl | ⟨rfl, hno⟩ | ⟨rfl, hyes⟩
      · have n1 : gv ≠ F.m := fun e => by have := hN.tm; rw [e] at tv; omega
        have c1 : Chg (One gv) wc (wc.setCell ⟨gv, a, none⟩ (.int .i64 1)) := (Chg.refl _ _).setCell (p := ⟨gv, a, none⟩) _ fun _ => rfl
        obtain ⟨k1, k2⟩ := hN.lset (c := 1) hv c1 (hVr.set a (by omega) (.int .i64 1))
        have hl2 : LvOk F { s1 with lv := upd s1.lv i (upd (s1.lv i) a 1) } (i + 1) (i + nodesP x) := fun j y q1 q2 q3 b hb => by
          have e : j ≠ i := by omega
          simp only [upd, if_neg e]; exact hLv j y (by omega) q2 q3 b hb
        have HA := Lib.hid (hW i a _ _ k1 ht halt hl2)
        have HO := Lib.hid (⟨hLv, hfr, hS.trans k2⟩ : _ ∧ _ ∧ _)
        have HL1 := Lib.hid (show ∀ b, b ≠ a → upd s1.lv i (upd (s1.lv i) a 1) i b = s1.lv i b from fun b hb => by rw [upd_same, upd_ne _ _ hb])
        have HL2 := Lib.hid (show upd s1.lv i (upd (s1.lv i) a 1) i a = 1 by rw [upd_same, upd_same])
        have HL3 := Lib.hid (show ∀ j, j ≠ i → upd s1.lv i (upd (s1.lv i) a 1) j = s1.lv j from fun j hj => upd_ne _ _ hj)
        clear k1 k2 hl2 hN hVr hv tv c1 hS hLv hfr
        go_wp2_with fail
        refine HA.out.mono ?_
        rintro e w3 ⟨zz, s3, rfl, hzz, k1, k2, k3, k4⟩
        have HZZ := Lib.hid hzz
        have hS3 := HO.out.2.2.trans k2
        have hv3 : s3.v i ≠ none := k2.v i hv0
        obtain ⟨gv3, hv3'⟩ := Option.ne_none_iff_exists'.1 hv3
        have hvc3 : w3.cell? ⟨F.gV, i, none⟩ = some (rowOf F.b.length (s3.v i)) := (k1.V.2 i hil).1
        rw [hv3'] at hvc3
        simp only [rowOf] at hvc3
        obtain ⟨tv3, hVr3⟩ := k1.vr i gv3 hv3'
        have hva3 : w3.cell? ⟨gv3, a, none⟩ = some (.int .i64 (s3.lv i a : Int)) := (hVr3.2 a (by omega)).1
        have hvf3 := (hVr3.2 a (by omega)).2
        have hli : s3.lv i = upd s1.lv i (upd (s1.lv i) a 1) i := k4 i (.inl (by omega))
        rw [hli, HL2.out] at hva3
        clear y0 y1 y2 y3 y4 y5 hvc hva hvf hzz
        obtain ⟨y0, y1, y2, y3, y4, y5⟩ := k1.cells
        have hbase : ∀ (s4 : NS), (∀ j, j ≠ i → s4.lv j = s3.lv j) → (∀ b, b ≠ a → s4.lv i b = s3.lv i b) → ((s4.lv i a = 1 ∧ ¬ Lv (Lang x) F.b a) ∨ (s4.lv i a = 2 ∧ Lv (Lang x) F.b a)) → LvOk F s4 i (i + nodesP x) ∧ ∀ j, (j < i ∨ i + nodesP x ≤ j) → s4.lv j = s.lv j := by
          intro s4 q1 q2 q3
          refine ⟨fun j y r1 r2 r3 b hb => ?_, fun j hj => ?_⟩
          · by_cases e : j = i
            · subst e
              obtain rfl : x = y := by rw [ht.node] at r3; exact Option.some.inj r3
              by_cases eb : b = a
              · subst eb; exact .inr q3
              · rw [q2 b eb, hli, HL1.out b eb]; exact HO.out.1 j x r1 r2 ht.node b hb
            · rw [q1 j e]; exact k3 j y (by omega) r2 r3 b hb
          · have e : j ≠ i := by omega
            rw [q1 j e, k4 j (by omega)]
            exact (show upd s1.lv i (upd (s1.lv i) a 1) j = s1.lv j from HL3.out j e).trans (HO.out.2.1 j hj)
        have HB := Lib.hid hbase
        clear hbase
        cases zz with
        | true =>
          have n3 : gv3 ≠ F.m := fun e => by have := k1.tm; rw [e] at tv3; omega
          have n4 : gv3 ≠ F.gV := fun e => by have := k1.tV; rw [e] at tv3; omega
          have m3 := n3.symm
          have m4 := n4.symm
          have c1 : Chg (One gv3) w3 (w3.setCell ⟨gv3, a, none⟩ (.int .i64 2)) := (Chg.refl _ _).setCell (p := ⟨gv3, a, none⟩) _ fun _ => rfl
          obtain ⟨r1, r2⟩ := k1.lset (c := 2) hv3' c1 (hVr3.set a (by omega) (.int .i64 2))
          have hfin := HB.out { s3 with lv := upd s3.lv i (upd (s3.lv i) a 2) } (fun j hj => upd_ne _ _ hj) (fun b hb => by simp only [upd, if_true, if_neg hb]) (.inr ⟨by simp only [upd, if_true], HZZ.out.1 (by first | rfl | trivial)⟩)
          have HQ := Lib.hid (⟨r1, hS3.trans r2, hfin⟩ : _ ∧ _ ∧ _)
          clear r1 r2 hfin c1 hVr3 k1 k2 k3 k4 hli tv3 hv3'
          go_wp2
          go_ret
          exact ⟨true, _, rfl, ⟨fun _ => HZZ.out.1 (by first | rfl | trivial), fun _ => rfl⟩, HQ.out.1, HQ.out.2.1, HQ.out.2.2.1, HQ.out.2.2.2⟩
        | false =>
          have hnl : ¬ Lv (Lang x) F.b a := fun h => absurd (HZZ.out.2 h) (by simp)
          have hfin := HB.out s3 (fun _ _ => rfl) (fun _ _ => rfl) (.inl ⟨by rw [hli]; exact HL2.out, hnl⟩)
          have HQ := Lib.hid (⟨k1, hS3, hfin, hnl⟩ : _ ∧ _ ∧ _ ∧ _)
          clear hfin hVr3 k1 k2 k3 k4 hli tv3 hv3' hnl
          go_wp2
          go_ret
          exact ⟨false, s3, rfl, ⟨fun h => absurd h (by simp), fun h => absurd h HQ.out.2.2.2⟩, HQ.out.1, HQ.out.2.1, HQ.out.2.2.1.1, HQ.out.2.2.1.2⟩
      · have HQ := Lib.hid (⟨hN, hS, hLv, hfr, hno⟩ : _ ∧ _ ∧ _ ∧ _ ∧ _)
        clear hVr hv tv hN hS hLv hfr hno
        go_wp2
        go_ret
        exact ⟨false, s1, rfl, ⟨fun h => absurd h (by simp), fun h => absurd h HQ.out.2.2.2.2⟩, HQ.out.1, HQ.out.2.1, HQ.out.2.2.1, HQ.out.2.2.2.1⟩
      · have HQ := Lib.hid (⟨hN, hS, hLv, hfr, hyes⟩ : _ ∧ _ ∧ _ ∧ _ ∧ _)
        clear hVr hv tv hN hS hLv hfr hyes
        go_wp2
        go_ret
        exact ⟨true, s1, rfl, ⟨fun _ => HQ.out.2.2.2.2, fun _ => rfl⟩, HQ.out.1, HQ.out.2.1, HQ.out.2.2.1, HQ.out.2.2.2.1⟩
end Go.Proofs.YticipgjbgcdccaaDoor
namespace Go.Proofs.YticipgjbgcdccaaDoor
open Go.RowKit

set_option maxHeartbeats 4000000 in
set_option maxRecDepth 100000 in
theorem within_1 (F : NF) (hF : NFok F) (f t mn mx : Int) (l : List Ex) (hR : rightP (.mk 1 f t mn mx l) = true) (hL : ∀ z ∈ (l : List Ex), LiveC F z) (hE : ∀ z ∈ (l : List Ex), EndsC F z) : WithinC F (.mk 1 f t mn mx l) := by
  have hA : ∀ z ∈ (l : List Ex), AliveC F z := fun z hz => alive_of F z (hL z hz)
  have hSt : ∀ z ∈ (l : List Ex), StepC F z := fun z hz => step_of F hF z (hE z hz)
  intro i a w s h ht ha hlv
  have hil : i < F.es.length := ht.lt
  have hn9 := hF.n
  obtain ⟨hh, hrk⟩ := rightP_head hR
  obtain ⟨y0, y1, y2, y3, y4, y5⟩ := h.cells
  obtain ⟨Ae, ce, e0, e1, e2, e3, e4, e5⟩ := h.E i _ ht.node
  simp only [Ex.k, Ex.f, Ex.t, Ex.a, Ex.b, Ex.l, List.length_singleton] at e0 e1 e2 e3 e4 e5
  have hz0 : (0 : Int) ≤ (i : Int) := by omega
  have hz1 : (i : Int) < (F.es.length : Int) := by omega
  have hz2 : (0 : Int) ≤ (a : Int) := by omega
  have hz3 : (a : Int) < (F.b.length : Int) := by omega
  have c1 : Chg No w ((w.alloc (.cells #[.int .i64 1, .int .i64 f, .int .i64 t, .int .i64 mn, .int .i64 mx, .slice Ae l.length ce] 25)).alloc (.cells #[.int .i64 (a : Int)] 3)) := ((Chg.refl _ _).alloc _).alloc _
  have hb := (Blk.new w 25 #[.int .i64 1, .int .i64 f, .int .i64 t, .int .i64 mn, .int .i64 mx, .slice Ae l.length ce]).alloc (.cells #[.int .i64 (a : Int)] 3)
  have hI := (OwI.one (w.alloc (.cells #[.int .i64 1, .int .i64 f, .int .i64 t, .int .i64 mn, .int .i64 mx, .slice Ae l.length ce] 25)) a (Nat.le_refl _)).ints
  have hw1 : (w.alloc (.cells #[.int .i64 1, .int .i64 f, .int .i64 t, .int .i64 mn, .int .i64 mx, .slice Ae l.length ce] 25)).heap.size = w.heap.size + 1 := by simp
  rw [hw1] at hI
  have H7 := Lib.hid (⟨h.keepNo c1, (Stp.refl w s).no c1, hb, h.new w.heap.size (Nat.le_refl _), hI.imp (q := fun g => s.T g = 0) fun g hg => h.new g (by omega), hlv⟩ : _ ∧ _ ∧ _ ∧ _ ∧ _ ∧ _)
  have HN := Lib.hid h
  obtain ⟨ids, hki, hT⟩ := ht.kids
  simp only [Ex.l] at hT
  have hids := hT.len
  clear c1 hb hI h hlv hw1
  have hLv : Lv (Lang (.mk 1 f t mn mx l)) F.b a ↔ a + 1 = F.b.length ∧ f ≤ F.b[a] ∧ (F.b[a] : Int) ≤ t := by
    rw [show Lang (.mk 1 f t mn mx l) = fun w => ∃ c : Nat, w = [c] ∧ f ≤ c ∧ (c : Int) ≤ t from funext (Lang_one f t mn mx l)]; exact Lv_byte ha
  obtain ⟨_, hB1, hB2, hB3⟩ := hF.B.chgNo H7.out.1.c0
  obtain ⟨gb, ob, hB4, hB5, hB6⟩ := hB3 (fun e => by rw [e] at ha; simp at ha)
  obtain ⟨c, hc⟩ : ∃ c, F.b[a] = c := ⟨_, rfl⟩
  obtain ⟨xc, hc256⟩ := hB6 a c (by rw [List.getElem?_eq_getElem ha, hc])
  rw [hc] at hLv
  obtain ⟨x0, _, _, _, _, _⟩ := H7.out.1.cells
  rw [hB4] at x0
  have hbb := H7.out.2.2.1
  have x1 := (hbb.cell 1).trans rfl
  have x2 := (hbb.cell 2).trans rfl
  simp only [List.getElem?_toArray, List.getElem?_cons_zero, List.getElem?_cons_succ] at x1 x2
  have HL := Lib.hid hLv
  clear hLv hB1 hB2 hB3 hB4 hB5 hB6 hc hA hSt hE hL hh hrk hR hbb
  have hfin : ∀ (n : Nat) (d : Bool), (d = true ↔ Lv (Lang (.mk 1 f t mn mx l)) F.b a) → LPost F (i + 1) (i + nodesP (.mk 1 f t mn mx l)) w s (Lv (Lang (.mk 1 f t mn mx l)) F.b a) (.returned (.bool d)) (((w.alloc (.cells #[.int .i64 1, .int .i64 f, .int .i64 t, .int .i64 mn, .int .i64 mx, .slice Ae l.length ce] 25)).alloc (.cells #[.int .i64 (a : Int)] 3)).drewN n) := fun n d hd =>
    ⟨d, s, rfl, hd, H7.out.1.keepNo ((Chg.refl _ _).drewN n), H7.out.2.1.no ((Chg.refl _ _).drewN n), H7.out.2.2.2.2.2, fun _ _ => rfl⟩
  have HF := Lib.hid hfin
  clear hfin
  by_cases q0 : a + 1 = F.b.length
  · have d1 : ((a : Int) == (F.b.length : Int) - 1) = true := by simp; omega
    by_cases q1 : f ≤ (c : Int)
    · have d2 : decide ((c : Int) ≥ f) = true := decide_eq_true q1
      by_cases q2 : (c : Int) ≤ t
      · as_aux_lemma =>
          have d3 : decide ((c : Int) ≤ t) = true := decide_eq_true q2
          go_enter Tryd.func100, Tryd.ntmps100
          go_wp2
          go_quiet (fail)
          go_wp2
          go_ret
          exact HF.out _ true ⟨fun _ => HL.out.2 ⟨q0, q1, q2⟩, fun _ => rfl⟩
      · as_aux_lemma =>
          have d3 : decide ((c : Int) ≤ t) = false := decide_eq_false q2
          go_enter Tryd.func100, Tryd.ntmps100
          go_wp2
          go_quiet (fail)
          go_wp2
          go_ret
          exact HF.out _ false ⟨fun h => absurd h (by simp), fun h => by have := (HL.out.1 h).2.2; omega⟩
    · as_aux_lemma =>
        have d2 : decide ((c : Int) ≥ f) = false := decide_eq_false q1
        go_enter Tryd.func100, Tryd.ntmps100
        go_wp2
        go_quiet (fail)
        go_wp2
        go_ret
        exact HF.out _ false ⟨fun h => absurd h (by simp), fun h => by have := (HL.out.1 h).2.1; omega⟩
  · as_aux_lemma =>
      have d1 : ((a : Int) == (F.b.length : Int) - 1) = false := by simp; omega
      go_enter Tryd.func100, Tryd.ntmps100
      go_wp2
      go_quiet (fail)
      go_wp2
      go_ret
      exact HF.out _ false ⟨fun h => absurd h (by simp), fun h => absurd (HL.out.1 h).1 q0⟩

set_option maxHeartbeats 4000000 in
set_option maxRecDepth 100000 in
theorem within_2 (F : NF) (hF : NFok F) (f t mn mx : Int) (l : List Ex) (hR : rightP (.mk 2 f t mn mx l) = true) (hL : ∀ z ∈ (l : List Ex), LiveC F z) (hE : ∀ z ∈ (l : List Ex), EndsC F z) : WithinC F (.mk 2 f t mn mx l) := by
  have hA : ∀ z ∈ (l : List Ex), AliveC F z := fun z hz => alive_of F z (hL z hz)
  have hSt : ∀ z ∈ (l : List Ex), StepC F z := fun z hz => step_of F hF z (hE z hz)
  intro i a w s h ht ha hlv
  have hil : i < F.es.length := ht.lt
  have hn9 := hF.n
  obtain ⟨hh, hrk⟩ := rightP_head hR
  obtain ⟨y0, y1, y2, y3, y4, y5⟩ := h.cells
  obtain ⟨Ae, ce, e0, e1, e2, e3, e4, e5⟩ := h.E i _ ht.node
  simp only [Ex.k, Ex.f, Ex.t, Ex.a, Ex.b, Ex.l, List.length_singleton] at e0 e1 e2 e3 e4 e5
  have hz0 : (0 : Int) ≤ (i : Int) := by omega
  have hz1 : (i : Int) < (F.es.length : Int) := by omega
  have hz2 : (0 : Int) ≤ (a : Int) := by omega
  have hz3 : (a : Int) < (F.b.length : Int) := by omega
  have c1 : Chg No w ((w.alloc (.cells #[.int .i64 2, .int .i64 f, .int .i64 t, .int .i64 mn, .int .i64 mx, .slice Ae l.length ce] 25)).alloc (.cells #[.int .i64 (a : Int)] 3)) := ((Chg.refl _ _).alloc _).alloc _
  have hb := (Blk.new w 25 #[.int .i64 2, .int .i64 f, .int .i64 t, .int .i64 mn, .int .i64 mx, .slice Ae l.length ce]).alloc (.cells #[.int .i64 (a : Int)] 3)
  have hI := (OwI.one (w.alloc (.cells #[.int .i64 2, .int .i64 f, .int .i64 t, .int .i64 mn, .int .i64 mx, .slice Ae l.length ce] 25)) a (Nat.le_refl _)).ints
  have hw1 : (w.alloc (.cells #[.int .i64 2, .int .i64 f, .int .i64 t, .int .i64 mn, .int .i64 mx, .slice Ae l.length ce] 25)).heap.size = w.heap.size + 1 := by simp
  rw [hw1] at hI
  have H7 := Lib.hid (⟨h.keepNo c1, (Stp.refl w s).no c1, hb, h.new w.heap.size (Nat.le_refl _), hI.imp (q := fun g => s.T g = 0) fun g hg => h.new g (by omega), hlv⟩ : _ ∧ _ ∧ _ ∧ _ ∧ _ ∧ _)
  have HN := Lib.hid h
  obtain ⟨ids, hki, hT⟩ := ht.kids
  simp only [Ex.l] at hT
  have hids := hT.len
  clear c1 hb hI h hlv hw1
  have hLv : Lv (Lang (.mk 2 f t mn mx l)) F.b a ↔ ∃ (k : Nat) (y : Ex) (j : Nat), l[k]? = some y ∧ Sts F.b (fun x => x = a) ((l.take k).map Lang) j ∧ Lv (Lang y) F.b j := by
    rw [show Lang (.mk 2 f t mn mx l) = catsL (l.map Lang) from funext (Lang_two f t mn mx l), Lv_cats ha (fun L hL => by
      obtain ⟨y, hy, rfl⟩ := List.mem_map.1 hL
      exact Lang_ne (hrk y hy))]
    constructor
    · rintro ⟨k, L, j, h1, h2, h3⟩
      rw [List.getElem?_map] at h1
      obtain ⟨y, hy, rfl⟩ := Option.map_eq_some_iff.1 h1
      exact ⟨k, y, j, hy, by rw [List.map_take]; exact h2, h3⟩
    · rintro ⟨k, y, j, h1, h2, h3⟩
      exact ⟨k, Lang y, j, by rw [List.getElem?_map, h1]; rfl, by rw [← List.map_take]; exact h2, h3⟩
  have HL := Lib.hid hLv
  have hnp : nodesP (.mk 2 f t mn mx l) = 1 + nodesS l := by conv => lhs; unfold nodesP
  have HNP := Lib.hid hnp
  clear hLv hE hL hh hrk hR hnp
  go_enter Tryd.func100, Tryd.ntmps100
  go_wp2
  go_loopw [8, 9] (fun v8 v9 wr => ∃ (k : Nat) (lk : List Nat) (s2 : NS), k ≤ l.length ∧ v9 = .int .i64 (k : Int) ∧ NetOk wr F s2 ∧ Stp w s wr s2 ∧ LvOk F s2 (i + 1) (i + nodesP (.mk 2 f t mn mx l)) ∧ (∀ j, (j < i + 1 ∨ i + nodesP (.mk 2 f t mn mx l) ≤ j) → s2.lv j = s.lv j) ∧ IntsV wr (fun g => s2.T g = 0) v8 lk ∧ Hid (Pls (Sts F.b (fun x => x = a) ((l.take k).map Lang)) lk) ∧
    Hid (∀ (q : Nat) (y : Ex) (j : Nat), q < k → l[q]? = some y → Sts F.b (fun x => x = a) ((l.take q).map Lang) j → ¬ Lv (Lang y) F.b j)) (fun _ v _ => l.length - (intOf v).toNat)
  case atStart => exact ⟨0, [a], s, by omega, rfl, H7.out.1, H7.out.2.1, H7.out.2.2.2.2.2, fun _ _ => rfl, H7.out.2.2.2.2.1, Lib.hid ⟨by simp, fun j => by simp [Sts]⟩, Lib.hid fun q y j hq => by omega⟩
  case round =>
    clear H7 HN y0 y1 y2 y3 y4 y5 e0 e1 e2 e3 e4 e5
    obtain ⟨k, lk, s2, hk, rfl, hN, hS, hLo, hfr, hI, HP, HD⟩ := hrel
    obtain ⟨Ak, ck, z0, hkl, hKI⟩ := hN.kidsAt hki hids
    obtain ⟨y0, y1, y2, y3, y4, y5⟩ := hN.cells
    by_cases hlt : k < l.length
    · as_aux_lemma =>
        obtain ⟨j0, hj0, htj, hlo, hhi⟩ := hT.get k l[k] (List.getElem?_eq_getElem hlt)
        obtain ⟨gk, ok, rfl, z1⟩ := hKI k j0 hj0
        have hPle : ∀ j, Sts F.b (fun x => x = a) ((l.take k).map Lang) j → j ≤ F.b.length := fun j hj => Sts_le (fun x (hx : x = a) => by omega) _ hj
        obtain ⟨A8, c8, rfl, _, _⟩ := hI.form
        have hr := HNP.out
        have hAl := Lib.hid (hA _ (List.getElem_mem hlt) j0 _ lk wr s2 hN htj (hI.imp fun g hg => by omega) (fun j hj => hPle j ((HP.out.2 j).1 hj)) (hLo.sub (by omega) (by omega)))
        have hnx : Sts F.b (fun x => x = a) ((l.take (k + 1)).map Lang) = St (Lang l[k]) F.b (Sts F.b (fun x => x = a) ((l.take k).map Lang)) := by
          rw [List.take_succ_eq_append_getElem hlt, List.map_append]; exact Sts_snoc _
        have HNX := Lib.hid hnx
        have hz8 : (k : Int) < (l.length : Int) := by omega
        have hz7 : (0 : Int) ≤ (k : Int) := by omega
        have HIV := Lib.hid hI
        have hstep := fun w' s' (h1 : NetOk w' F s') (h2 : IntsV w' (fun g => s'.T g ≤ 1) (.slice A8 lk.length c8) lk) => hSt _ (List.getElem_mem hlt) j0 _ lk _ w' s' h1 htj h2 HP.out.2 hPle (by have := HP.out.len hPle; omega)
        have hlk : l[k]? = some l[k] := List.getElem?_eq_getElem hlt
        obtain ⟨y, hy⟩ : ∃ y, l[k] = y := ⟨_, rfl⟩
        rw [hy] at hlk HNX hAl hhi
        have HST : Hid (∀ w' s', NetOk w' F s' → IntsV w' (fun g => s'.T g ≤ 1) (.slice A8 lk.length c8) lk → Calls Tryd.prog 97 #[.pointer (some ⟨F.m, 0, none⟩), .int .i64 (j0 : Int), .slice A8 lk.length c8] w' fun e w'' => NPost F w' s' (St (Lang y) F.b (Sts F.b (fun x => x = a) ((l.take k).map Lang))) e w'') := Lib.hid (by rw [← hy]; exact hstep)
        have HLK := Lib.hid hlk
        clear hnx hKI hI hstep hlk hy htj
        go_wp2_with fail
        refine hAl.out.mono ?_
        rintro e w3 ⟨zz, s3, rfl, hzz, k1, k2, k3, k4⟩
        have HZ := Lib.hid hzz
        have hLo3 : LvOk F s3 (i + 1) (i + nodesP (.mk 2 f t mn mx l)) := hLo.part k3 k4
        have hfr3 : ∀ j, (j < i + 1 ∨ i + nodesP (.mk 2 f t mn mx l) ≤ j) → s3.lv j = s.lv j := fun j hj => (k4 j (by omega)).trans (hfr j hj)
        have hS3 := hS.trans k2
        clear hzz hLo hfr k3 k4 hN
        cases zz with
        | true => as_aux_lemma =>
          go_wp2
          go_ret
          refine ⟨true, s3, rfl, ⟨fun _ => HL.out.2 ?_, fun _ => rfl⟩, k1, hS3, hLo3, hfr3⟩
          obtain ⟨j, h1, h2⟩ := HZ.out.1 (by first | rfl | trivial)
          exact ⟨k, y, j, HLK.out, (HP.out.2 j).1 h1, h2⟩
        | false => as_aux_lemma =>
          have hno : ∀ j, Sts F.b (fun x => x = a) ((l.take k).map Lang) j → ¬ Lv (Lang y) F.b j := fun j h1 h2 => absurd (HZ.out.2 ⟨j, (HP.out.2 j).2 h1, h2⟩) (by simp)
          have HNO := Lib.hid hno
          obtain ⟨Ak2, ck2, z02, _, hKI3⟩ := k1.kidsAt hki hids
          obtain ⟨gk2, ok2, rfl, z12⟩ := hKI3 k j0 hj0
          have HI3 := (HIV.out.imp (q := fun g => s2.T g ≤ 1) fun g hg => by omega).stp (c := 1) (by omega) k2
          have HS := Lib.hid (HST.out w3 s3 k1 HI3)
          clear y0 y1 y2 y3 y4 y5 z0 z1 hno hKI3 HI3
          obtain ⟨y0, y1, y2, y3, y4, y5⟩ := k1.cells
          go_wp2_with fail
          refine HS.out.mono ?_
          rintro e w5 ⟨u5, l5, s5, rfl, r1, r2, r3, r4, r5, r6⟩
          go_wp2
          refine ⟨⟨k + 1, l5, s5, by omega, by go_num, r1, hS3.trans r2, fun j y' q1 q2 q3 b hb => by rw [r3]; exact hLo3 j y' q1 q2 q3 b hb, fun j hj => (congrFun r3 j).trans (hfr3 j hj), r5, Lib.hid (by rw [HNX.out]; exact r6), Lib.hid fun q y' j hq h1 h2 => ?_⟩, by simp [intOf]; omega⟩
          rcases Nat.lt_or_ge q k with h3 | h3
          · exact HD.out q y' j h3 h1 h2
          · obtain rfl : q = k := by omega
            obtain rfl : y' = y := by rw [HLK.out] at h1; exact (Option.some.inj h1).symm
            exact HNO.out j h2
    · as_aux_lemma =>
        obtain rfl : k = l.length := by omega
        clear hKI
        go_wp2
        go_ret
        refine ⟨false, s2, rfl, ⟨fun h => absurd h (by simp), fun h => ?_⟩, hN, hS, hLo, hfr⟩
        obtain ⟨q, y, j, h1, h2, h3⟩ := HL.out.1 h
        exact absurd h3 (HD.out q y j (List.getElem?_eq_some_iff.1 h1).1 h1 h2)

set_option maxHeartbeats 4000000 in
set_option maxRecDepth 100000 in
theorem within_3 (F : NF) (hF : NFok F) (f t mn mx : Int) (l : List Ex) (hR : rightP (.mk 3 f t mn mx l) = true) (hL : ∀ z ∈ (l : List Ex), LiveC F z) (hE : ∀ z ∈ (l : List Ex), EndsC F z) : WithinC F (.mk 3 f t mn mx l) := by
  have hA : ∀ z ∈ (l : List Ex), AliveC F z := fun z hz => alive_of F z (hL z hz)
  have hSt : ∀ z ∈ (l : List Ex), StepC F z := fun z hz => step_of F hF z (hE z hz)
  intro i a w s h ht ha hlv
  have hil : i < F.es.length := ht.lt
  have hn9 := hF.n
  obtain ⟨hh, hrk⟩ := rightP_head hR
  obtain ⟨y0, y1, y2, y3, y4, y5⟩ := h.cells
  obtain ⟨Ae, ce, e0, e1, e2, e3, e4, e5⟩ := h.E i _ ht.node
  simp only [Ex.k, Ex.f, Ex.t, Ex.a, Ex.b, Ex.l, List.length_singleton] at e0 e1 e2 e3 e4 e5
  have hz0 : (0 : Int) ≤ (i : Int) := by omega
  have hz1 : (i : Int) < (F.es.length : Int) := by omega
  have hz2 : (0 : Int) ≤ (a : Int) := by omega
  have hz3 : (a : Int) < (F.b.length : Int) := by omega
  have c1 : Chg No w ((w.alloc (.cells #[.int .i64 3, .int .i64 f, .int .i64 t, .int .i64 mn, .int .i64 mx, .slice Ae l.length ce] 25)).alloc (.cells #[.int .i64 (a : Int)] 3)) := ((Chg.refl _ _).alloc _).alloc _
  have hb := (Blk.new w 25 #[.int .i64 3, .int .i64 f, .int .i64 t, .int .i64 mn, .int .i64 mx, .slice Ae l.length ce]).alloc (.cells #[.int .i64 (a : Int)] 3)
  have hI := (OwI.one (w.alloc (.cells #[.int .i64 3, .int .i64 f, .int .i64 t, .int .i64 mn, .int .i64 mx, .slice Ae l.length ce] 25)) a (Nat.le_refl _)).ints
  have hw1 : (w.alloc (.cells #[.int .i64 3, .int .i64 f, .int .i64 t, .int .i64 mn, .int .i64 mx, .slice Ae l.length ce] 25)).heap.size = w.heap.size + 1 := by simp
  rw [hw1] at hI
  have H7 := Lib.hid (⟨h.keepNo c1, (Stp.refl w s).no c1, hb, h.new w.heap.size (Nat.le_refl _), hI.imp (q := fun g => s.T g = 0) fun g hg => h.new g (by omega), hlv⟩ : _ ∧ _ ∧ _ ∧ _ ∧ _ ∧ _)
  have HN := Lib.hid h
  obtain ⟨ids, hki, hT⟩ := ht.kids
  simp only [Ex.l] at hT
  have hids := hT.len
  clear c1 hb hI h hlv hw1
  have hLv : Lv (Lang (.mk 3 f t mn mx l)) F.b a ↔ ∃ y, y ∈ l ∧ Lv (Lang y) F.b a := by
    rw [show Lang (.mk 3 f t mn mx l) = orL (l.map Lang) from funext (Lang_three f t mn mx l), Lv_or]
    constructor
    · rintro ⟨L, h1, h2⟩
      obtain ⟨y, h3, rfl⟩ := List.mem_map.1 h1
      exact ⟨y, h3, h2⟩
    · rintro ⟨y, h1, h2⟩; exact ⟨Lang y, List.mem_map.2 ⟨y, h1, rfl⟩, h2⟩
  have HL := Lib.hid hLv
  have hnp : nodesP (.mk 3 f t mn mx l) = 1 + nodesS l := by conv => lhs; unfold nodesP
  have HNP := Lib.hid hnp
  clear hLv hE hA hSt hh hrk hR hnp
  go_enter Tryd.func100, Tryd.ntmps100
  go_wp2
  go_loopw [10] (fun v10 wr => ∃ (k : Nat) (s2 : NS), k ≤ l.length ∧ v10 = .int .i64 (k : Int) ∧ NetOk wr F s2 ∧ Stp w s wr s2 ∧ LvOk F s2 (i + 1) (i + nodesP (.mk 3 f t mn mx l)) ∧ (∀ j, (j < i + 1 ∨ i + nodesP (.mk 3 f t mn mx l) ≤ j) → s2.lv j = s.lv j) ∧
    Hid (∀ (q : Nat) (y : Ex), q < k → l[q]? = some y → ¬ Lv (Lang y) F.b a)) (fun v _ => l.length - (intOf v).toNat)
  case atStart => exact ⟨0, s, by omega, rfl, H7.out.1, H7.out.2.1, H7.out.2.2.2.2.2, fun _ _ => rfl, Lib.hid fun q y hq => by omega⟩
  case round =>
    clear H7 HN y0 y1 y2 y3 y4 y5 e0 e1 e2 e3 e4 e5
    obtain ⟨k, s2, hk, rfl, hN, hS, hLo, hfr, HD⟩ := hrel
    obtain ⟨Ak, ck, z0, hkl, hKI⟩ := hN.kidsAt hki hids
    obtain ⟨y0, y1, y2, y3, y4, y5⟩ := hN.cells
    by_cases hlt : k < l.length
    · as_aux_lemma =>
        obtain ⟨j0, hj0, htj, hlo, hhi⟩ := hT.get k l[k] (List.getElem?_eq_getElem hlt)
        obtain ⟨gk, ok, rfl, z1⟩ := hKI k j0 hj0
        have hr := HNP.out
        have hAl := Lib.hid (hL _ (List.getElem_mem hlt) j0 a wr s2 hN htj (by omega) (hLo.sub (by omega) (by omega)))
        have hz8 : (k : Int) < (l.length : Int) := by omega
        have hz7 : (0 : Int) ≤ (k : Int) := by omega
        have hlk : l[k]? = some l[k] := List.getElem?_eq_getElem hlt
        have hmem : l[k] ∈ l := List.getElem_mem hlt
        obtain ⟨y, hy⟩ : ∃ y, l[k] = y := ⟨_, rfl⟩
        rw [hy] at hlk hAl hhi hmem
        have HLK := Lib.hid hlk
        clear hKI hlk hy htj
        go_wp2_with fail
        refine hAl.out.mono ?_
        rintro e w3 ⟨zz, s3, rfl, hzz, k1, k2, k3, k4⟩
        have HZ := Lib.hid hzz
        have hLo3 : LvOk F s3 (i + 1) (i + nodesP (.mk 3 f t mn mx l)) := hLo.part k3 k4
        have hfr3 : ∀ j, (j < i + 1 ∨ i + nodesP (.mk 3 f t mn mx l) ≤ j) → s3.lv j = s.lv j := fun j hj => (k4 j (by omega)).trans (hfr j hj)
        have hS3 := hS.trans k2
        clear hzz hLo hfr k3 k4 hN
        cases zz with
        | true =>
          go_wp2
          go_ret
          exact ⟨true, s3, rfl, ⟨fun _ => HL.out.2 ⟨y, hmem, HZ.out.1 (by first | rfl | trivial)⟩, fun _ => rfl⟩, k1, hS3, hLo3, hfr3⟩
        | false =>
          go_wp2
          refine ⟨⟨k + 1, s3, by omega, by go_num, k1, hS3, hLo3, hfr3, Lib.hid fun q y' hq h1 h2 => ?_⟩, by simp [intOf]; omega⟩
          rcases Nat.lt_or_ge q k with h3 | h3
          · exact HD.out q y' h3 h1 h2
          · obtain rfl : q = k := by omega
            obtain rfl : y' = y := by rw [HLK.out] at h1; exact (Option.some.inj h1).symm
            exact absurd (HZ.out.2 h2) (by simp)
    · as_aux_lemma =>
        obtain rfl : k = l.length := by omega
        clear hKI
        go_wp2
        go_ret
        refine ⟨false, s2, rfl, ⟨fun h => absurd h (by simp), fun h => ?_⟩, hN, hS, hLo, hfr⟩
        obtain ⟨y, h1, h2⟩ := HL.out.1 h
        obtain ⟨q, h3⟩ := List.getElem?_of_mem h1
        exact absurd h2 (HD.out q y (List.getElem?_eq_some_iff.1 h3).1 h3)

set_option maxHeartbeats 4000000 in
set_option maxRecDepth 100000 in
theorem within_4 (F : NF) (hF : NFok F) (f t mn mx : Int) (y : Ex) (hR : rightP (.mk 4 f t mn mx [y]) = true) (hL : ∀ z ∈ ([y] : List Ex), LiveC F z) (hE : ∀ z ∈ ([y] : List Ex), EndsC F z) : WithinC F (.mk 4 f t mn mx [y]) := by
  have hA : ∀ z ∈ ([y] : List Ex), AliveC F z := fun z hz => alive_of F z (hL z hz)
  have hSt : ∀ z ∈ ([y] : List Ex), StepC F z := fun z hz => step_of F hF z (hE z hz)
  intro i a w s h ht ha hlv
  have hil : i < F.es.length := ht.lt
  have hn9 := hF.n
  obtain ⟨hh, hrk⟩ := rightP_head hR
  obtain ⟨y0, y1, y2, y3, y4, y5⟩ := h.cells
  obtain ⟨Ae, ce, e0, e1, e2, e3, e4, e5⟩ := h.E i _ ht.node
  simp only [Ex.k, Ex.f, Ex.t, Ex.a, Ex.b, Ex.l, List.length_singleton] at e0 e1 e2 e3 e4 e5
  have hz0 : (0 : Int) ≤ (i : Int) := by omega
  have hz1 : (i : Int) < (F.es.length : Int) := by omega
  have hz2 : (0 : Int) ≤ (a : Int) := by omega
  have hz3 : (a : Int) < (F.b.length : Int) := by omega
  have c1 : Chg No w ((w.alloc (.cells #[.int .i64 4, .int .i64 f, .int .i64 t, .int .i64 mn, .int .i64 mx, .slice Ae 1 ce] 25)).alloc (.cells #[.int .i64 (a : Int)] 3)) := ((Chg.refl _ _).alloc _).alloc _
  have hb := (Blk.new w 25 #[.int .i64 4, .int .i64 f, .int .i64 t, .int .i64 mn, .int .i64 mx, .slice Ae 1 ce]).alloc (.cells #[.int .i64 (a : Int)] 3)
  have hI := (OwI.one (w.alloc (.cells #[.int .i64 4, .int .i64 f, .int .i64 t, .int .i64 mn, .int .i64 mx, .slice Ae 1 ce] 25)) a (Nat.le_refl _)).ints
  have hw1 : (w.alloc (.cells #[.int .i64 4, .int .i64 f, .int .i64 t, .int .i64 mn, .int .i64 mx, .slice Ae 1 ce] 25)).heap.size = w.heap.size + 1 := by simp
  rw [hw1] at hI
  have H7 := Lib.hid (⟨h.keepNo c1, (Stp.refl w s).no c1, hb, h.new w.heap.size (Nat.le_refl _), hI.imp (q := fun g => s.T g = 0) fun g hg => h.new g (by omega), hlv⟩ : _ ∧ _ ∧ _ ∧ _ ∧ _ ∧ _)
  have HN := Lib.hid h
  obtain ⟨ids, hki, hT⟩ := ht.kids
  simp only [Ex.l] at hT
  have hids := hT.len
  clear c1 hb hI h hlv hw1
  obtain ⟨hm0, hm1, hmx⟩ : 0 ≤ mn ∧ mn ≤ 1000 ∧ (mx = -1 ∨ (mn ≤ mx ∧ mx ≤ 1000)) := by unfold headOk at hh; simp at hh; omega
  have hLr : Lang (.mk 4 f t mn mx [y]) = fun w => ∃ m : Nat, mn ≤ m ∧ (mx < 0 ∨ (m : Int) ≤ mx) ∧ powL (Lang y) m w := funext (Lang_rp f t mn mx y)
  have hne : ∃ w, Lang y w := Lang_ne (hrk y (by simp))
  have hmx2 : mx < 0 ∨ mn ≤ mx := by omega
  have hLB : ∀ (M Fr : Nat → Prop) (k : Nat), Bfs (Lang y) F.b (fun x => x = a) k M Fr → (mx < 0 ∨ (k : Int) ≤ mx) → (∀ j, M j → ¬ Fr j → ¬ Lv (Lang y) F.b j) → ((¬ (mx < 0 ∨ (k : Int) < mx)) ∨ ∀ j, ¬ Fr j) → (M F.b.length ↔ Lv (Lang (.mk 4 f t mn mx [y])) F.b a) := by
    intro M Fr k h h1 h2 h3
    rw [hLr]; exact h.lives ha hne hm0 hmx2 h1 h2 h3
  have hLV0 := Lv_rep (L := Lang y) (b := F.b) (a := mn) (c := mx) ha hne hm0 hmx2
  rw [← hLr] at hLV0
  have HLV := Lib.hid hLV0
  have HLB := Lib.hid hLB
  have hnp : nodesP (.mk 4 f t mn mx [y]) = 1 + nodesP y := by
    simp [nodesP, nodesS]
  have HNP := Lib.hid hnp
  have HAL := Lib.hid (hA y (by simp))
  have HSY := Lib.hid (hSt y (by simp))
  obtain ⟨j0, hj0, htj, hlo, hhi⟩ := hT.get 0 y rfl
  have hns : nodesS [y] = nodesP y := by simp [nodesS]
  rw [hns] at hhi
  have hmk := fun w => make_bools w F.b.length (by omega)
  clear hLr hne hE hL hA hSt hh hrk hR hnp
  obtain ⟨w1, hw1⟩ : ∃ w1, (w.alloc (.cells #[.int .i64 4, .int .i64 f, .int .i64 t, .int .i64 mn, .int .i64 mx, .slice Ae 1 ce] 25)).alloc (.cells #[.int .i64 (a : Int)] 3) = w1 := ⟨_, rfl⟩
  have hsz1 : w1.heap.size = w.heap.size + 2 := by rw [← hw1]; simp
  have hrow : (w1.alloc (.cells ((madeCells #[.bool false] (F.b.length + 1)).setIfInBounds a (.bool true)) 4)).rowIs w1.heap.size 4 (F.b.length + 1) (fun j => .bool (decide (j = a))) := by
    refine ⟨_, heap_alloc_new w1 _, by rw [Array.size_setIfInBounds, size_madeCells], fun j hj => ?_⟩
    rw [Array.getElem?_setIfInBounds]
    by_cases e : a = j
    · subst e; rw [if_pos rfl, if_pos (by rw [size_madeCells]; exact hj)]; simp
    · rw [if_neg e]; simp [madeCells, hj, Nat.mod_one]; omega
  have H7' := H7.out
  rw [hw1] at H7'
  have HW1 := Lib.hid hw1
  obtain ⟨q1, q2, q3, q4, q5, q6⟩ := H7'
  obtain ⟨m1, m2, m3⟩ := q1.mine (w' := w1.alloc (.cells ((madeCells #[.bool false] (F.b.length + 1)).setIfInBounds a (.bool true)) 4)) ((Chg.refl _ _).alloc _) (by simp)
  have hI2 := q5.to (S := No) (s' := s.own w1.heap.size) ((Chg.refl No w1).alloc (.cells ((madeCells #[.bool false] (F.b.length + 1)).setIfInBounds a (.bool true)) 4)) (fun _ e => e.elim) m2.T
  have hb2 := q3.alloc (.cells ((madeCells #[.bool false] (F.b.length + 1)).setIfInBounds a (.bool true)) 4)
  have htG : (s.own w1.heap.size).T w.heap.size = 0 := (upd_ne _ _ (by omega)).trans q4
  have HI := Lib.hid (⟨m1, q2.trans m2, m3, hrow, hI2, hb2, htG, q6⟩ : _ ∧ _ ∧ _ ∧ _ ∧ _ ∧ _ ∧ _ ∧ _)
  obtain ⟨x0, _, _, _, _, _⟩ := q1.cells
  clear m1 m2 m3 hrow hI2 hb2 htG q1 q2 q3 q4 q5 q6 H7 HN hw1
  go_enter Tryd.func100, Tryd.ntmps100
  go_upto_region 21 with fail
  rw [HW1.out]
  obtain ⟨G, hG⟩ : ∃ G, w.heap.size = G := ⟨_, rfl⟩
  simp only [hG] at HI ⊢
  clear y0 y1 y2 y3 y4 y5 e0 e1 e2 e3 e4 e5
  have HLT := Lib.hid (show w.heap.size ≤ w1.heap.size ∧ G < w1.heap.size by omega)
  have hmade := World.rowIs_made w1 (.bool false) (F.b.length + 1) 4
  have hcm := hmade.cell (i := a) (by omega)
  have hfm := hmade.frozen a
  clear hmade
  clear hsz1 hLV0 hLB
  go_upto_block 5 with fail
  obtain ⟨Gm, hGm⟩ : ∃ Gm, w1.heap.size = Gm := ⟨_, rfl⟩
  simp only [hGm] at HI HLT ⊢
  obtain ⟨w2, hw2⟩ : ∃ w2, w1.alloc (.cells ((madeCells #[.bool false] (F.b.length + 1)).setIfInBounds a (.bool true)) 4) = w2 := ⟨_, rfl⟩
  simp only [hw2] at HI ⊢
  clear hw2 hGm x0 hcm hfm
  have hBf : Bfs (Lang y) F.b (fun x => x = a) 0 (fun j => j ≤ F.b.length ∧ decide (j = a) = true) (fun j => j ∈ [a]) := by
    have h0 := Bfs.start (L := Lang y) (b := F.b) (fun x => x = a)
    refine ⟨fun j => ?_, fun j => ?_⟩
    · rw [← h0.M j]
      constructor
      · rintro ⟨_, h⟩; simpa using h
      · intro h; exact ⟨by omega, by simpa using h⟩
    · rw [← h0.F j]; simp
  have hcnt : 0 + (if [a] = [] then 0 else 1) ≤ cntB (fun j => decide (j = a)) (F.b.length + 1) := by
    rw [if_neg (by simp)]
    exact cntB_pos _ a (by simp) _ (by omega)
  have HST := Lib.hid (⟨hBf, hcnt, show LvOk F (s.own Gm) (i + 1) (i + nodesP (.mk 4 f t mn mx [y])) from HI.out.2.2.2.2.2.2.2, show ∀ j, (s.own Gm).lv j = s.lv j from fun _ => rfl⟩ : _ ∧ _ ∧ _ ∧ _)
  clear hBf hcnt
  generalize s.own Gm = s5 at HI HST
  go_wp2
  go_loopw [8, 12] (fun v8 v12 wq => ∃ (r : Nat) (lf : List Nat) (s6 : NS) (M : Nat → Bool), v12 = .int .i64 (r : Int) ∧ NetOk wq F s6 ∧ Stp w s wq s6 ∧ LvOk F s6 (i + 1) (i + nodesP (.mk 4 f t mn mx [y])) ∧ (∀ j, (j < i + 1 ∨ i + nodesP (.mk 4 f t mn mx [y]) ≤ j) → s6.lv j = s.lv j) ∧ s6.T Gm = 1 ∧ s6.T G = 0 ∧ wq.rowIs Gm 4 (F.b.length + 1) (fun j => .bool (M j)) ∧ IntsV wq (fun g => s6.T g = 0) v8 lf ∧ lf.length ≤ F.b.length + 1 ∧
    Blk wq G 25 #[.int .i64 4, .int .i64 f, .int .i64 t, .int .i64 mn, .int .i64 mx, .slice Ae 1 ce] ∧ Hid (Bfs (Lang y) F.b (fun x => x = a) r (fun j => j ≤ F.b.length ∧ M j = true) (fun j => j ∈ lf)) ∧ (mx < 0 ∨ (r : Int) ≤ mx) ∧ r + (if lf = [] then 0 else 1) ≤ cntB M (F.b.length + 1) ∧ Hid (∀ j, j ≤ F.b.length → M j = true → ¬ j ∈ lf → ¬ Lv (Lang y) F.b j)) (fun _ v _ => (F.b.length + 2) - (intOf v).toNat)
  case atStart => exact ⟨0, [a], s5, fun j => decide (j = a), rfl, HI.out.1, HI.out.2.1, HST.out.2.2.1, fun j _ => HST.out.2.2.2 j, HI.out.2.2.1, HI.out.2.2.2.2.2.2.1, HI.out.2.2.2.1, HI.out.2.2.2.2.1, by simp, HI.out.2.2.2.2.2.1, Lib.hid HST.out.1, by omega, HST.out.2.1, Lib.hid fun j _ h1 h2 => absurd (by simpa using h1) h2⟩
  case round =>
    clear HST HI
    obtain ⟨r, lf, s6, M, rfl, hN, hS, hLo, hfr, hTm, hTG, hR6, hIL, hll, hbG, HBF, hmr, hcnt, HDD⟩ := hrel
    obtain ⟨A14, c14, rfl, hx1, hx2⟩ := hIL.form
    have x4 := (hbG.cell 4).trans rfl
    simp only [List.getElem?_toArray, List.getElem?_cons_zero, List.getElem?_cons_succ] at x4
    have hcl := cntB_le M (F.b.length + 1)
    have HP := Lib.hid (⟨hN, hS, hR6, hIL, hbG, hLo⟩ : _ ∧ _ ∧ _ ∧ _ ∧ _ ∧ _)
    clear hN hS hR6 hIL hbG hLo
    go_upto_region 24 with fail
    go_cut [152] (fun s152 wx => ∃ zz, IsV s152 (.bool zz) ∧ wx = wr ∧ Hid (zz = true ↔ ((mx < 0 ∨ (r : Int) < mx) ∧ lf ≠ [])))
    case first =>
      have hl0 : lf ≠ [] ↔ 0 < lf.length := List.length_pos_iff.symm
      have HL0 := Lib.hid hl0
      clear hl0 HP hcnt HBF HDD
      by_cases q1 : (r : Int) < mx
      · as_aux_lemma =>
          go_wp2
          go_meet
          exact ⟨decide (0 < lf.length), rfl, by first | trivial | rfl, Lib.hid (by rw [HL0.out, decide_eq_true_iff]; omega)⟩
      · by_cases q2 : mx < 0
        · as_aux_lemma =>
            go_wp2
            go_meet
            exact ⟨decide (0 < lf.length), rfl, by first | trivial | rfl, Lib.hid (by rw [HL0.out, decide_eq_true_iff]; omega)⟩
        · as_aux_lemma =>
            go_wp2
            go_meet
            exact ⟨false, rfl, by first | trivial | rfl, Lib.hid (by simp; omega)⟩
    case rest =>
      obtain ⟨zz, h152, hwc, HZZ⟩ := hcut
      have hwc := hwc.symm
      subst hwc
      unfold IsV at h152; subst h152
      obtain ⟨hN, hS, hR6, hIL, hbG, hLo⟩ := HP.out
      obtain ⟨y0, y1, y2, y3, y4, y5⟩ := hN.cells
      clear HP x4
      cases zz with
      | false => as_aux_lemma =>
          have hmn := hR6.cell (i := F.b.length) (by omega)
          have he : (¬ (mx < 0 ∨ (r : Int) < mx)) ∨ ∀ j, ¬ j ∈ lf := by
            by_cases q : mx < 0 ∨ (r : Int) < mx
            · right
              by_cases e : lf = []
              · rw [e]; simp
              · exact absurd (HZZ.out.2 ⟨q, e⟩) (by simp)
            · exact .inl q
          have hfin := HLB.out _ _ r HBF.out hmr (fun j h1 h2 => HDD.out j h1.1 h1.2 h2) he
          obtain ⟨d, hd⟩ : ∃ d, M F.b.length = d := ⟨_, rfl⟩
          rw [hd] at hmn hfin
          have HFI := Lib.hid (show d = true ↔ Lv (Lang (.mk 4 f t mn mx [y])) F.b a from ⟨fun h => hfin.1 ⟨Nat.le_refl _, h⟩, fun h => (hfin.2 h).2⟩)
          have hz8 : (0 : Int) ≤ (F.b.length : Int) := by omega
          have hz9 : (F.b.length : Int) < (F.b.length : Int) + 1 := by omega
          clear hfin he HBF hbG hIL hcnt hd HDD
          go_wp2
          go_ret
          exact ⟨d, s6, rfl, HFI.out, hN, hS, hLo, hfr⟩
      | true => as_aux_lemma =>
          obtain ⟨hq1, hq2⟩ := HZZ.out.1 rfl
          obtain ⟨Ak, ck, z0, hkl, hKI⟩ := hN.kidsAt hki hids
          obtain ⟨gk, ok, rfl, z1⟩ := hKI 0 j0 hj0
          simp only [List.length_singleton, Nat.add_zero] at z0 z1
          have hr := HNP.out
          have hle6 : ∀ j, j ∈ lf → j ≤ F.b.length := fun j hj => Pw_le (fun x (hx : x = a) => by omega) r ((HBF.out.F j).1 hj).1
          have HA := Lib.hid (HAL.out j0 _ lf wr s6 hN htj (hIL.imp fun g hg => by omega) hle6 (hLo.sub (by omega) (by omega)))
          have HIV := Lib.hid hIL
          clear hKI hIL hN
          go_wp2_with fail
          refine HA.out.mono ?_
          rintro e w4 ⟨zz, s4, rfl, hzz, k1, k2, k3, k4⟩
          have HZ := Lib.hid hzz
          have hLo4 : LvOk F s4 (i + 1) (i + nodesP (.mk 4 f t mn mx [y])) := hLo.part k3 k4
          have hfr4 : ∀ j, (j < i + 1 ∨ i + nodesP (.mk 4 f t mn mx [y]) ≤ j) → s4.lv j = s.lv j := fun j hj => (k4 j (by omega)).trans (hfr j hj)
          have hS4 := hS.trans k2
          have hT4 : s4.T Gm = 1 := (k2.T Gm hR6.lt).trans hTm
          have hT5 : s4.T G = 0 := (k2.T G hbG.lt).trans hTG
          have hR4 := rowIs_stp hR6 (by omega) k2
          have hb4 := hbG.stp (by omega) k2
          clear hzz hLo hfr k3 k4 hS hR6 hbG y0 y1 y2 y3 y4 y5 z0 z1 HA hTm hTG
          cases zz with
          | true => as_aux_lemma =>
              have hyes : Lv (Lang (.mk 4 f t mn mx [y])) F.b a := by
                obtain ⟨j, h1, h2⟩ := HZ.out.1 (by first | rfl | trivial)
                exact HLV.out.2 (.inl ⟨r, hq1, j, ((HBF.out.F j).1 h1).1, h2⟩)
              have HY := Lib.hid hyes
              clear hyes
              go_wp2
              go_ret
              exact ⟨true, s4, rfl, ⟨fun _ => HY.out, fun _ => rfl⟩, k1, hS4, hLo4, hfr4⟩
          | false => as_aux_lemma =>
              have hdead : ∀ j, j ∈ lf → ¬ Lv (Lang y) F.b j := fun j h1 h2 => absurd (HZ.out.2 ⟨j, h1, h2⟩) (by simp)
              have HDE := Lib.hid hdead
              obtain ⟨Ak2, ck2, z0, _, hKI⟩ := k1.kidsAt hki hids
              obtain ⟨gk2, ok2, rfl, z1⟩ := hKI 0 j0 hj0
              simp only [List.length_singleton, Nat.add_zero] at z0 z1
              obtain ⟨y0, y1, y2, y3, y4, y5⟩ := k1.cells
              have HS := Lib.hid (HSY.out j0 _ lf (fun j => j ∈ lf) w4 s4 k1 htj ((HIV.out.imp (q := fun g => s6.T g ≤ 1) fun g hg => by omega).stp (c := 1) (by omega) k2) (fun _ => Iff.rfl) hle6 (by omega))
              clear hKI hdead k2
              go_wp2_with fail
              refine HS.out.mono ?_
              rintro e w5 ⟨u3, l3, s7, rfl, r1, r2, r3, r4, r5, r6⟩
              obtain ⟨A3, c3, rfl, hd1, hd2⟩ := r5.form
              have hle3 := fun j (hj : j ∈ l3) => St_le ((r6.2 j).1 hj)
              have hl3 := r6.len fun j hj => St_le hj
              have hT7 : s7.T Gm = 1 := (r2.T Gm hR4.lt).trans hT4
              have hT8 : s7.T G = 0 := (r2.T G hb4.lt).trans hT5
              have hR7 := rowIs_stp hR4 (by omega) r2
              have hb7 := hb4.stp (by omega) r2
              have hS7 := hS4.trans r2
              have hgG : G ≠ Gm := fun e => by rw [e] at hT8; omega
              have hgw0 : w.heap.size ≤ Gm := HLT.out.1
              have hLo7 : LvOk F s7 (i + 1) (i + nodesP (.mk 4 f t mn mx [y])) := fun j x' p1 p2 p3 b hb => by rw [r3]; exact hLo4 j x' p1 p2 p3 b hb
              have hfr7 : ∀ j, (j < i + 1 ∨ i + nodesP (.mk 4 f t mn mx [y]) ≤ j) → s7.lv j = s.lv j := fun j hj => (congrFun r3 j).trans (hfr4 j hj)
              have H5 := Lib.hid (⟨r1, hS7, r5, r6, hb7, hLo7⟩ : _ ∧ _ ∧ _ ∧ _ ∧ _ ∧ _)
              have hR0 := hR7
              clear k1 r1 r2 r3 r4 r5 r6 hS4 hR4 hb4 hb7 hS7 hLo7 hLo4 hfr4 y0 y1 y2 y3 y4 y5 z0 z1 HS
              go_wp2
              go_loopw [8, 14] (fun v8 v14 wq => ∃ (j : Nat) (lg : List Nat) (M2 : Nat → Bool), j ≤ l3.length ∧ v14 = .int .i64 (j : Int) ∧ OwI wq w5.heap.size v8 lg ∧ Chg (One Gm) w5 wq ∧ wq.rowIs Gm 4 (F.b.length + 1) (fun j => .bool (M2 j)) ∧ lg.length ≤ j ∧
                Hid (∀ q, q ≤ F.b.length → (M2 q = true ↔ M q = true ∨ q ∈ lg)) ∧ Hid (∀ q, q ∈ lg ↔ q ∈ l3.take j ∧ ¬ M q = true) ∧ Hid (cntB M2 (F.b.length + 1) = cntB M (F.b.length + 1) + lg.length)) (fun _ v _ => l3.length - (intOf v).toNat)
              case atStart => exact ⟨0, [], M, by omega, rfl, OwI.nil _ _, Chg.refl _ _, hR0, by simp, Lib.hid fun q _ => by simp, Lib.hid fun q => by simp, Lib.hid (by simp)⟩
              case round =>
                clear hR0 hR7
                obtain ⟨j, lg, M2, hj, rfl, hO, hC, hR8, hlg, HM, HG, HC⟩ := hrel
                by_cases hlt2 : j < l3.length
                · obtain ⟨g3, o3, c3', e3, z3⟩ := (H5.out.2.2.1.keep (p' := fun g => s7.T g = 0) hC fun g hg _ => ⟨fun e => by unfold One at e; subst e; omega, hg⟩).cell hlt2
                  cases e3
                  obtain ⟨q, hq⟩ : ∃ q, l3[j] = q := ⟨_, rfl⟩
                  have hqn : q ≤ F.b.length := by rw [← hq]; exact hle3 _ (List.getElem_mem hlt2)
                  have hcq := hR8.cell (i := q) (by omega)
                  have hfq := hR8.frozen q
                  have htq : l3.take (j + 1) = l3.take j ++ [q] := by rw [List.take_succ_eq_append_getElem hlt2, hq]
                  have HTQ := Lib.hid htq
                  rw [hq] at z3
                  have hz5 : (0 : Int) ≤ (q : Int) := by omega
                  have hz6 : (q : Int) < ((F.b.length : Int) + 1) := by omega
                  obtain ⟨d, hd⟩ : ∃ d, M2 q = d := ⟨_, rfl⟩
                  have HD := Lib.hid hd
                  have HQ := Lib.hid hq
                  rw [hd] at hcq
                  clear hq htq hd
                  have hzw := hC.size
                  cases d with
                  | true => as_aux_lemma =>
                      go_wp2
                      refine ⟨⟨j + 1, lg, M2, by omega, by go_num, hO, hC, hR8, by omega, HM, Lib.hid fun p => ?_, HC⟩, by simp [intOf]; omega⟩
                      rw [HG.out p, HTQ.out, List.mem_append, List.mem_singleton]
                      constructor
                      · rintro ⟨h1, h2⟩; exact ⟨.inl h1, h2⟩
                      · rintro ⟨h1 | rfl, h2⟩
                        · exact ⟨h1, h2⟩
                        · rcases (HM.out p hqn).1 HD.out with h3 | h3
                          · exact absurd h3 h2
                          · exact (HG.out p).1 h3
                  | false => as_aux_lemma =>
                      have hR9 := hR8.set q (.bool true)
                      have hC9 : Chg (One Gm) w5 (wr.setCell ⟨Gm, q, none⟩ (.bool true)) := hC.setCell _ fun _ => rfl
                      have hOlt := hO.lt
                      have hgw : Gm < w5.heap.size := by
                        rcases Nat.lt_or_ge Gm w5.heap.size with h1 | h1
                        · exact h1
                        · have := H5.out.1.new Gm h1; omega
                      have hO9 : OwI (wr.setCell ⟨Gm, q, none⟩ (.bool true)) w5.heap.size u8 lg := hO.chg ((Chg.refl (One Gm) wr).setCell (p := ⟨Gm, q, none⟩) _ fun _ => rfl) fun k hk e => by have := (hOlt k hk).1; unfold One at e; omega
                      obtain ⟨g9, o9, c9, e9, z9⟩ := (H5.out.2.2.1.keep (p' := fun g => s7.T g = 0) hC9 fun g hg _ => ⟨fun e => by unfold One at e; subst e; omega, hg⟩).cell hlt2
                      cases e9
                      rw [HQ.out] at z9
                      go_wp2_with (at_builtin; refine wpList_append_int rfl _ _ rfl w5.heap.size _ _ rfl (hO9.chgNo ((Chg.refl No _).alloc _)) _ 1 q rfl (Blk.new' (by simp [World.setCell])) (by first | omega | (simp; omega)) (by first | omega | (simp [World.setCell]; omega)) ?_; intro v' w9 hO' hgr hat)
                      have h89 : Chg (fun p => some p = u8.ownBlock) _ w9 := ((Chg.refl _ _).alloc _).then_ (Chg.of_grown (S := fun p => some p = _) hgr fun p e _ => e.symm) fun p _ e => e
                      have hng : ¬ some Gm = u8.ownBlock := fun e => by have := (hOlt _ e.symm).1; omega
                      refine ⟨⟨j + 1, lg ++ [q], upd M2 q true, by omega, by go_num, hO', hC9.then_ h89 fun p hp e => by have := (hOlt _ e.symm).1; omega, ?_, by simp; omega, Lib.hid fun p hp => ?_, Lib.hid fun p => ?_, Lib.hid ?_⟩, by simp [intOf]; omega⟩
                      · exact (hR9.of_block (h89.block Gm hR9.lt hng)).congr fun p _ => by unfold upd; split <;> rfl
                      · unfold upd
                        by_cases e : p = q
                        · simp [e]
                        · rw [if_neg e, HM.out p hp]; simp [e]
                      · rw [HTQ.out, List.mem_append, List.mem_append, List.mem_singleton, HG.out p]
                        constructor
                        · rintro (⟨h1, h2⟩ | rfl)
                          · exact ⟨.inl h1, h2⟩
                          · refine ⟨.inr rfl, fun h3 => ?_⟩
                            have := (HM.out p hqn).2 (.inl h3)
                            rw [HD.out] at this; cases this
                        · rintro ⟨h1 | rfl, h2⟩
                          · exact .inl ⟨h1, h2⟩
                          · exact .inr rfl
                      · rw [cntB_upd M2 q HD.out _ (by omega), HC.out]; simp; omega
                · as_aux_lemma =>
                    obtain rfl : j = l3.length := by omega
                    have hN9 := H5.out.1.keep hC fun g e => by unfold One at e; subst e; exact hT7
                    have hS9 : Stp w s wr s7 := H5.out.2.1.mine hC fun g e => by unfold One at e; omega
                    have hb9 := H5.out.2.2.2.2.1.chg hC hgG
                    have hI9 : IntsV wr (fun g => s7.T g = 0) u8 lg := hO.ints.imp fun g hg => H5.out.1.new g hg
                    have hmem : ∀ q, q ∈ lg ↔ St (Lang y) F.b (fun j => j ∈ lf) q ∧ ¬ (q ≤ F.b.length ∧ M q = true) := fun q => by
                      rw [HG.out q, List.take_length, H5.out.2.2.2.1.2 q]
                      constructor
                      · rintro ⟨h1, h2⟩; exact ⟨h1, fun h3 => h2 h3.2⟩
                      · rintro ⟨h1, h2⟩; exact ⟨h1, fun h3 => h2 ⟨St_le h1, h3⟩⟩
                    have hB9 := HBF.out.next (M' := fun j => j ≤ F.b.length ∧ M2 j = true) (F' := fun j => j ∈ lg) hmem fun j => by
                      constructor
                      · rintro ⟨h1, h2⟩
                        rcases (HM.out j h1).1 h2 with h3 | h3
                        · exact .inl ⟨h1, h3⟩
                        · exact .inr h3
                      · rintro (⟨h1, h2⟩ | h2)
                        · exact ⟨h1, (HM.out j h1).2 (.inl h2)⟩
                        · have h1 : j ≤ F.b.length := St_le ((hmem j).1 h2).1
                          exact ⟨h1, (HM.out j h1).2 (.inr h2)⟩
                    have hc9 : (r + 1) + (if lg = [] then 0 else 1) ≤ cntB M2 (F.b.length + 1) := by
                      rw [HC.out]
                      rw [if_neg hq2] at hcnt
                      by_cases e : lg = []
                      · rw [if_pos e]; omega
                      · have := List.length_pos_iff.2 e
                        rw [if_neg e]; omega
                    have hd9 : ∀ j, j ≤ F.b.length → M2 j = true → ¬ j ∈ lg → ¬ Lv (Lang y) F.b j := fun j h1 h2 h3 => by
                      rcases (HM.out j h1).1 h2 with h4 | h4
                      · by_cases h5 : j ∈ lf
                        · exact HDE.out j h5
                        · exact HDD.out j h1 h4 h5
                      · exact absurd h4 h3
                    have HR := Lib.hid (⟨hN9, hS9, hb9, hI9, hB9, hc9, hd9⟩ : _ ∧ _ ∧ _ ∧ _ ∧ _ ∧ _ ∧ _)
                    have hr1 : r + 1 ≤ F.b.length + 1 := by rw [if_neg hq2] at hcnt; omega
                    clear hN9 hS9 hb9 hI9 hB9 hc9 hd9 hmem hcnt HM HG HC HBF HDD
                    go_wp2
                    refine ⟨⟨r + 1, lg, s7, M2, by go_num, HR.out.1, HR.out.2.1, H5.out.2.2.2.2.2, hfr7, hT7, hT8, hR8, HR.out.2.2.2.1, by omega, HR.out.2.2.1, Lib.hid HR.out.2.2.2.2.1, by omega, HR.out.2.2.2.2.2.1, Lib.hid HR.out.2.2.2.2.2.2⟩, ?_⟩
                    simp [intOf]; omega

theorem within_of (F : NF) (hF : NFok F) (x : Ex) (hR : rightP x = true) (hL : ∀ z ∈ x.l, LiveC F z) (hE : ∀ z ∈ x.l, EndsC F z) : WithinC F x := by
  obtain ⟨k, f, t, mn, mx, l⟩ := x
  have hh := (rightP_head hR).1
  rcases headOk_cases hh with rfl | rfl | rfl | rfl
  · exact within_1 F hF f t mn mx l hR hL hE
  · exact within_2 F hF f t mn mx l hR hL hE
  · exact within_3 F hF f t mn mx l hR hL hE
  · obtain ⟨y, rfl⟩ := List.length_eq_one_iff.1 (show l.length = 1 by unfold headOk at hh; simp at hh; omega)
    exact within_4 F hF f t mn mx y hR hL hE
/-- every question of a right value -/
theorem net_all (F : NF) (hF : NFok F) : ∀ (N : Nat) (x : Ex), SizeOf.sizeOf x < N → rightP x = true → EndsC F x ∧ LiveC F x
  | 0, _, h, _ => by omega
  | N + 1, x, hN, hR => by
    have ih : ∀ y ∈ x.l, EndsC F y ∧ LiveC F y := fun y hy => by
      refine net_all F hF N y ?_ ?_
      · obtain ⟨k, f, t, mn, mx, l⟩ := x
        have hy' : y ∈ l := hy
        have := Ex.lt_of_mem hy' k f t mn mx
        omega
      · obtain ⟨k, f, t, mn, mx, l⟩ := x
        exact (rightP_head hR).2 y hy
    exact ⟨ends_of F hF x hR fun y hy => (ih y hy).1, live_of F hF x hR (within_of F hF x hR (fun y hy => (ih y hy).2) fun y hy => (ih y hy).1)⟩
end Go.Proofs.YticipgjbgcdccaaDoor
