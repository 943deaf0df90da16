/- Package expr: (net).add of a range: contract.
   Package expr: (net).add of an alternative: contract; what its loops keep.
   Package expr: (net).add of a row: contract.
   A loop, its first round taken off. No condition: a lemma. -/
import Derived.Test.YticipgjbgcdccaaDoorZ5
set_option linter.unusedSimpArgs false
set_option linter.unusedVariables false
namespace Go.Proofs.YticipgjbgcdccaaDoor
open Go.RowKit

/-- from one net to a later one: what changed, which blocks are its own now -/
structure Grow (w0 w : World) (base G sz : Nat) (vt0 vf0 : Value) (fb0 : List Nat) (n : Nt) (vt vf v3 v4 v5 : Value) (fb : List Nat) : Prop where
  net : NetAt w base G sz n vt vf v3 v4 v5 fb
  chg : Chg (NetS G vt0 vf0 fb0) w0 w
  new : ∀ k, NetS G vt vf fb k → NetS G vt0 vf0 fb0 k ∨ w0.heap.size ≤ k
theorem Grow.trans {w0 w w' : World} {base G sz : Nat} {vt0 vf0 : Value} {fb0 : List Nat} {n n' : Nt} {vt vf v3 v4 v5 vt' vf' : Value} {fb fb' : List Nat} (h : Grow w0 w base G sz vt0 vf0 fb0 n vt vf v3 v4 v5 fb) (h' : Grow w w' base G sz vt vf fb n' vt' vf' v3 v4 v5 fb') :
    Grow w0 w' base G sz vt0 vf0 fb0 n' vt' vf' v3 v4 v5 fb' where
  net := h'.net
  chg := h.chg.then_ h'.chg fun i hi e => (h.new i e).elim id fun q => by omega
  new := fun k hk => (h'.new k hk).elim (h.new k) fun q => .inr (by have := h.chg.size; omega)

/-- what a call that lays a pattern down answers, and leaves -/
def AddPost (w : World) (base G sz : Nat) (vt vf v3 v4 v5 : Value) (fb : List Nat) (r : Nt × Part) (e : Ending) (w' : World) : Prop :=
  ∃ vt' vf' fb' f l, e = .returned (partV sz r.2.e f l) ∧ Grow w w' base G sz vt vf fb r.1 vt' vf' v3 v4 v5 fb' ∧ PartAt w' sz f l fb' r.2 ∧ w.heap.size ≤ f ∧ w.heap.size ≤ l ∧ f ≠ l

set_option maxHeartbeats 2000000 in
set_option maxRecDepth 100000 in
theorem add_range (base G sz : Nat) (n : Nt) (vt vf v3 v4 v5 : Value) (fb : List Nat) (f t a b : Int) (lst : List Ex) (A : Option Addr) (ln c : Nat) (w : World) (hz : sz ≤ 1000) (hn : NetAt w base G sz n vt vf v3 v4 v5 fb) (hle : n.fo.length = n.tk.length)
    (hroom : n.tk.length < 64 * sz) (hlen : n.tk.length ≤ 4096) :
    Calls Tryd.prog 90 #[.pointer (some ⟨G, 0, none⟩), .agg #[.int .i64 1, .int .i64 f, .int .i64 t, .int .i64 a, .int .i64 b, .slice A ln c]] w
      (AddPost w base G sz vt vf v3 v4 v5 fb (addP (.mk 1 f t a b lst) n)) := by
  have hF : addP (.mk 1 f t a b lst) n = (⟨n.tk ++ [(f, t)], n.fo ++ [0]⟩, ⟨false, 2 ^ n.tk.length, 2 ^ n.tk.length⟩) := by unfold addP; rw [if_pos rfl]
  rw [hF]
  obtain ⟨N, hN⟩ : ∃ N, n.tk.length = N := ⟨_, rfl⟩
  obtain ⟨T, ct, hvt⟩ : ∃ T ct, vt = .slice T N ct := by
    obtain ⟨h1, h2⟩ := hn.tk
    rcases h2 with ⟨rfl, h0⟩ | ⟨g, cap, cur, rfl, _⟩
    · exact ⟨none, 0, by rw [← hN, h0]⟩
    · exact ⟨_, _, by rw [hN]⟩
  obtain ⟨V, cv, hvf⟩ : ∃ V cv, vf = .slice V N cv := by
    obtain ⟨h1, h2⟩ := hn.fo
    rcases h2 with ⟨rfl, h0⟩ | ⟨g, cap, cur, rfl, _⟩
    · exact ⟨none, 0, by rw [← hN, ← hle, h0]⟩
    · exact ⟨_, _, by rw [← hN, hle]⟩
  subst hvt hvf
  have hx := Blk.new w 25 #[.int .i64 1, .int .i64 f, .int .i64 t, .int .i64 a, .int .i64 b, .slice A ln c]
  have c0 : Chg No w ((w.alloc (.cells #[.int .i64 1, .int .i64 f, .int .i64 t, .int .i64 a, .int .i64 b, .slice A ln c] 25)).alloc (.cells #[.bool false, .slice none 0 0, .slice none 0 0] 109)) := ((Chg.refl No w).alloc _).alloc _
  have hx0 := hx.alloc (.cells #[.bool false, .slice none 0 0, .slice none 0 0] 109)
  have hr0 : Blk ((w.alloc (.cells #[.int .i64 1, .int .i64 f, .int .i64 t, .int .i64 a, .int .i64 b, .slice A ln c] 25)).alloc (.cells #[.bool false, .slice none 0 0, .slice none 0 0] 109)) (w.heap.size + 1) 109 #[.bool false, .slice none 0 0, .slice none 0 0] := Blk.new' (by simp)
  have hG0 := hn.blk.chg c0 id
  have g0 := hG0.cell 0
  simp only [List.getElem?_toArray, List.getElem?_cons_zero, List.getElem?_cons_succ] at g0
  have hbare := bare_any G sz false _ hz g0
  unfold partV at hbare
  unfold AddPost partV
  have HN := Lib.hid hn
  go_enter Tryd.func90, Tryd.ntmps90
  go_wp2_with fail
  refine hbare.mono ?_
  rintro e w1 ⟨fs, ls, rfl, hf, hfl, hs1, hs2, c1⟩
  clear hbare
  have c2 : Chg No w (w1.alloc (.cells #[.bool false, .slice (some ⟨fs, 0, none⟩) sz sz, .slice (some ⟨ls, 0, none⟩) sz sz] 109)) := (c0.trans c1).alloc _
  have c2' : Chg No ((w.alloc (.cells #[.int .i64 1, .int .i64 f, .int .i64 t, .int .i64 a, .int .i64 b, .slice A ln c] 25)).alloc (.cells #[.bool false, .slice none 0 0, .slice none 0 0] 109)) (w1.alloc (.cells #[.bool false, .slice (some ⟨fs, 0, none⟩) sz sz, .slice (some ⟨ls, 0, none⟩) sz sz] 109)) := c1.alloc _
  have bo := Blk.new w1 109 #[.bool false, .slice (some ⟨fs, 0, none⟩) sz sz, .slice (some ⟨ls, 0, none⟩) sz sz]
  have n2 := hn.keepNo c2
  have a2 : Chg No w1 (w1.alloc (.cells #[.bool false, .slice (some ⟨fs, 0, none⟩) sz sz, .slice (some ⟨ls, 0, none⟩) sz sz] 109)) := (Chg.refl No w1).alloc _
  have hs1' := hs1.chg a2 id
  have hs2' := hs2.chg a2 id
  have hx2 := hx0.chg c2' id
  have hr2 := hr0.chg c2' id
  have hG2 := n2.blk
  have g1 := hG2.cell 1
  have h1 := hG2.frozen 1
  have x1 := hx2.cell 1
  have x2 := hx2.cell 2
  simp only [List.getElem?_toArray, List.getElem?_cons_zero, List.getElem?_cons_succ] at g1 x1 x2
  go_wp2_with fail
  generalize hW2 : (w1.alloc (.cells #[.bool false, .slice (some ⟨fs, 0, none⟩) sz sz, .slice (some ⟨ls, 0, none⟩) sz sz] 109)) = w2 at c2 c2' a2 bo n2 hs1' hs2' hx2 hr2 hG2 g1 h1 x1 x2 ⊢
  have hW2s := c2.size
  have hbw := hn.base_le (.inl rfl)
  have hGl := hn.blk.lt
  have nG : ¬ (Value.slice T N ct).ownBlock = some G := fun e => by
    obtain ⟨_, cs, hb⟩ := ownsRow_blk hn.tk e
    exact hn.blk.ne_ hb (by decide) rfl
  have ctk := ownsRow_chg n2.tk ((((Chg.refl No w2).drew).alloc (.cells #[.int .i64 f, .int .i64 t] 116))) (fun _ _ _ _ => id)
  rw [hN] at ctk
  have gA := (hG2.alloc (.cells #[.int .i64 f, .int .i64 t] 116)).cell 1
  simp only [List.getElem?_toArray, List.getElem?_cons_zero, List.getElem?_cons_succ] at gA
  go_cut [] (fun wx => ∃ T' ct', NetAt wx base G sz ⟨n.tk ++ [(f, t)], n.fo⟩ (.slice T' (N + 1) ct') (.slice V N cv) v3 v4 v5 fb ∧ Chg (NetS G (.slice T N ct) (.slice V N cv) fb) w2 wx ∧ (∀ k, (Value.slice T' (N + 1) ct').ownBlock = some k → (Value.slice T N ct).ownBlock = some k ∨ w.heap.size ≤ k))
  case first =>
    go_region_law (refine step_append_pair (by rfl) _ _ (by rfl) base (.slice T N ct) N (tkCells n.tk) (by rfl) ctk _ 1 f t (by rfl) (Blk.new _ _ _) (by omega) (by simp; omega) ?_; intro v' w5 hO5 hgr hat; obtain ⟨g', cap', rfl⟩ := ownsRow_succ hO5; have c5 : Chg (fun k => (Value.slice T N ct).ownBlock = some k) w2 w5 := ((((Chg.refl No w2).drew).alloc (.cells #[.int .i64 f, .int .i64 t] 116)).mono fun _ _ e => e.elim).then_ (Chg.of_grown (S := fun k => (Value.slice T N ct).ownBlock = some k) hgr fun k e _ => e) fun _ _ e => e; have g5 := (hG2.chg c5 nG).cell 1; have h5 := (hG2.chg c5 nG).frozen 1; simp only [List.getElem?_toArray, List.getElem?_cons_zero, List.getElem?_cons_succ] at g5)
    all_goals
      go_wp2
      go_meet
      refine ⟨_, _, n2.grow_tk c5 (by rw [hN]; exact hO5), (c5.mono fun k _ e => .inr (.inl e)).then_ (Chg.setCell (S := NetS G (.slice T N ct) (.slice V N cv) fb) (Chg.refl _ w5) (p := ⟨G, 1, none⟩) _ fun _ => .inl rfl) (fun _ _ e => e), fun k hk => ?_⟩
      rcases hat with e | e
      · exact .inl (e ▸ hk)
      · rw [e] at hk
        injection hk with hk
        refine .inr ?_
        subst hk
        simp
        omega
  case rest =>
    obtain ⟨T', ct', n3, c3, hnew3⟩ := hcut
    have hNf : n.fo.length = N := hle.trans hN
    have hWc := c3.size
    have g0w := n3.blk.cell 0
    have gB := n3.blk.cell 2
    simp only [List.getElem?_toArray, List.getElem?_cons_zero, List.getElem?_cons_succ] at g0w gB
    have nG6 : ¬ (Value.slice V N cv).ownBlock = some G := fun e => by
      obtain ⟨_, cs, hb⟩ := ownsRow_blk n3.fo e
      exact n3.blk.ne_ hb (by decide) rfl
    clear g0 g1 h1 gA ctk x1 x2
    go_wp2_with fail
    go_cut [] (fun wx => ∃ V' cv' g0, NetAt wx base G sz ⟨n.tk ++ [(f, t)], n.fo ++ [0]⟩ (.slice T' (N + 1) ct') (.slice V' (N + 1) cv') v3 v4 v5 (fb ++ [g0]) ∧ Chg (NetS G (.slice T' (N + 1) ct') (.slice V N cv) fb) wc wx ∧ wc.heap.size ≤ g0 ∧ (∀ k, (Value.slice V' (N + 1) cv').ownBlock = some k → (Value.slice V N cv).ownBlock = some k ∨ w.heap.size ≤ k))
    case first =>
      go_region_law (first | (go_simp; go_at_call 91; refine (set_any G sz _ hz (by exact g0w)).mono ?_; rintro e w6 ⟨rfl, hset, hcs⟩; have c6 : Chg No wc w6 := ((Chg.refl No wc).drew).trans hcs; have hG6 := n3.blk.chg c6 id; have gC := hG6.cell 2; have gD := (hG6.alloc (.cells #[.slice (some ⟨wc.heap.size, 0, none⟩) sz sz] 107)).cell 2; have hfo := ownsRow_chg n3.fo (c6.alloc (.cells #[.slice (some ⟨wc.heap.size, 0, none⟩) sz sz] 107)) (fun _ _ _ _ => id); rw [show (Nt.mk (n.tk ++ [(f, t)]) n.fo).fo.length = N from hNf] at hfo; have hz6 := c6.size; simp only [List.getElem?_toArray, List.getElem?_cons_zero, List.getElem?_cons_succ] at gC gD) | (refine step_append_set (by rfl) _ _ (by rfl) base (.slice V N cv) N (fb.map (setV sz)) (by rfl) hfo _ 1 sz wc.heap.size (by rfl) (Blk.new _ _ _) (by omega) (by simp; omega) ?_; intro v' w7 hO7 hgr hat; obtain ⟨g', cap', rfl⟩ := ownsRow_succ hO7; have c7 : Chg (fun k => (Value.slice V N cv).ownBlock = some k) wc w7 := ((c6.alloc (.cells #[.slice (some ⟨wc.heap.size, 0, none⟩) sz sz] 107)).mono fun _ _ e => e.elim).then_ (Chg.of_grown (S := fun k => (Value.slice V N cv).ownBlock = some k) hgr fun k e _ => e) fun _ _ e => e; have g7 := (n3.blk.chg c7 nG6).cell 2; have h7 := (n3.blk.chg c7 nG6).frozen 2; simp only [List.getElem?_toArray, List.getElem?_cons_zero, List.getElem?_cons_succ] at g7))
      all_goals
        go_wp2
        go_meet
        have hset7 : SetAt w7 wc.heap.size sz 0 := (hset.chg ((Chg.refl No w6).alloc (.cells #[.slice (some ⟨wc.heap.size, 0, none⟩) sz sz] 107)) id).chg (Chg.of_grown (S := fun k => (Value.slice V N cv).ownBlock = some k) hgr fun k e _ => e) fun e => by
          obtain ⟨_, cs, hb⟩ := ownsRow_blk hfo e
          exact (hset.1.alloc _).ne_ hb (by decide) rfl
        refine ⟨_, _, wc.heap.size, n3.grow_fo c7 (by rw [show (Nt.mk (n.tk ++ [(f, t)]) n.fo).fo.length = N from hNf]; exact hO7) hset7 (Nat.le_refl _) (by omega), (c7.mono fun k _ e => .inr (.inr (.inl e))).then_ (Chg.setCell (S := NetS G (.slice T' (N + 1) ct') (.slice V N cv) fb) (Chg.refl _ w7) (p := ⟨G, 2, none⟩) _ fun _ => .inl rfl) (fun _ _ e => e), Nat.le_refl _, fun k hk => ?_⟩
        rcases hat with e | e
        · exact .inl (e ▸ hk)
        · rw [e] at hk
          injection hk with hk
          refine .inr ?_
          subst hk
          simp
          omega
    case rest =>
      obtain ⟨V', cv', q0, n4, c4, hq0, hnew4⟩ := hcut
      have nfs : fs ∉ fb := fun e => by have := hn.fb_lt fs e; have := c0.size; simp at hf; omega
      have nls : ls ∉ fb := fun e => by have := hn.fb_lt ls e; have := c0.size; simp at hf; omega
      have lfs := hs1'.lt
      have lls := hs2'.lt
      have bo4 := (bo.chg c3 (n2.not_net bo (by decide) (by decide) (by decide) (.inl (by decide)))).chg c4 (n3.not_net (bo.chg c3 (n2.not_net bo (by decide) (by decide) (by decide) (.inl (by decide)))) (by decide) (by decide) (by decide) (.inl (by decide)))
      have r4 := (hr2.chg c3 (n2.not_net hr2 (by decide) (by decide) (by decide) (.inl (by decide)))).chg c4 (n3.not_net (hr2.chg c3 (n2.not_net hr2 (by decide) (by decide) (by decide) (.inl (by decide)))) (by decide) (by decide) (by decide) (.inl (by decide)))
      have s3 := hs1'.chg c3 (n2.not_net hs1'.1 (by decide) (by decide) (by decide) (.inr nfs))
      have s4 := s3.chg c4 (n3.not_net s3.1 (by decide) (by decide) (by decide) (.inr nfs))
      have t3 := hs2'.chg c3 (n2.not_net hs2'.1 (by decide) (by decide) (by decide) (.inr nls))
      have t4 := t3.chg c4 (n3.not_net t3.1 (by decide) (by decide) (by decide) (.inr nls))
      obtain ⟨o0, o1, o2, _⟩ := part_cells bo4
      clear g0w gB
      go_wp2_with fail
      refine (put_any fs sz 0 N _ hz s4 (by omega)).mono ?_
      rintro e w8 ⟨⟨_, rfl⟩, s8, c8⟩
      have bo8 := bo4.chg c8 (bo4.ne_ s4.1 (by decide))
      have r8 := r4.chg c8 (r4.ne_ s4.1 (by decide))
      have t8 := t4.chg c8 (fun e => by have e' : ls = fs := e; omega)
      clear o0 o1 o2
      obtain ⟨o0, o1, o2, _⟩ := part_cells bo8
      go_wp2_with fail
      refine (put_any ls sz 0 N _ hz t8 (by omega)).mono ?_
      rintro e w9 ⟨⟨_, rfl⟩, s9, c9⟩
      have bo9 := bo8.chg c9 (bo8.ne_ t8.1 (by decide))
      have r9 := r8.chg c9 (r8.ne_ t8.1 (by decide))
      have f9 := s8.chg c9 (fun e => by have e' : fs = ls := e; omega)
      clear o0 o1 o2
      obtain ⟨o0, o1, o2, _⟩ := part_cells bo9
      obtain ⟨q1, q2, q3, q4, q5, q6⟩ := part_cells r9
      go_wp2
      have hbz := ((r9.set_ 0 (.bool false)).set_ 1 (.slice (some ⟨fs, 0, none⟩) sz sz)).set_ 2 (.slice (some ⟨ls, 0, none⟩) sz sz)
      refine bodyPost_ret_part rfl rfl rfl hbz ?_
      have hfz : w.heap.size + 2 ≤ fs := by simpa using hf
      have hwc := c4.size
      have cS : ∀ x y z : Value, Chg (fun k => k = fs ∨ k = ls ∨ k = w.heap.size + 1) wc (((w9.setCell ⟨w.heap.size + 1, 0, none⟩ x).setCell ⟨w.heap.size + 1, 1, none⟩ y).setCell ⟨w.heap.size + 1, 2, none⟩ z) := fun x y z =>
        ((c8.mono fun k _ e => .inl e).then_ c9 fun k _ e => .inr (.inl e)).then_ (Chg.setCell (S := One (w.heap.size + 1)) (Chg.setCell (S := One (w.heap.size + 1)) (Chg.setCell (S := One (w.heap.size + 1)) (Chg.refl (One (w.heap.size + 1)) w9) (p := ⟨w.heap.size + 1, 0, none⟩) _ fun _ => rfl) (p := ⟨w.heap.size + 1, 1, none⟩) _ fun _ => rfl) (p := ⟨w.heap.size + 1, 2, none⟩) _ fun _ => rfl) fun k _ e => .inr (.inr e)
      have nf4 : fs ∉ fb ++ [q0] := fun e => by
        simp only [List.mem_append, List.mem_singleton] at e
        rcases e with e | e
        · exact nfs e
        · omega
      have nl4 : ls ∉ fb ++ [q0] := fun e => by
        simp only [List.mem_append, List.mem_singleton] at e
        rcases e with e | e
        · exact nls e
        · omega
      have cR := Chg.setCell (S := One (w.heap.size + 1)) (Chg.setCell (S := One (w.heap.size + 1)) (Chg.setCell (S := One (w.heap.size + 1)) (Chg.refl (One (w.heap.size + 1)) w9) (p := ⟨w.heap.size + 1, 0, none⟩) (.bool false) fun _ => rfl) (p := ⟨w.heap.size + 1, 1, none⟩) (.slice (some ⟨fs, 0, none⟩) sz sz) fun _ => rfl) (p := ⟨w.heap.size + 1, 2, none⟩) (.slice (some ⟨ls, 0, none⟩) sz sz) fun _ => rfl
      refine ⟨_, _, fb ++ [q0], fs, ls, rfl, ⟨n4.keep (cS _ _ _) ?_, ?_, ?_⟩, ⟨?_, ?_, nf4, nl4⟩, by omega, by omega, by omega⟩
      · rintro k hk (rfl | rfl | rfl)
        · exact n4.not_net s4.1 (by decide) (by decide) (by decide) (.inr nf4) hk
        · exact n4.not_net t4.1 (by decide) (by decide) (by decide) (.inr nl4) hk
        · exact n4.not_net r4 (by decide) (by decide) (by decide) (.inl (by decide)) hk
      · refine (((c2.mono fun _ _ e => e.elim).then_ c3 fun _ _ e => e).then_ c4 ?_).then_ (cS _ _ _) fun k hk e => by omega
        rintro k hk (e | e | e | e)
        · exact .inl e
        · rcases hnew3 k e with q | q
          · exact .inr (.inl q)
          · omega
        · exact .inr (.inr (.inl e))
        · exact .inr (.inr (.inr e))
      · rintro k (e | e | e | e)
        · exact .inl (.inl e)
        · exact (hnew3 k e).imp (fun q => .inr (.inl q)) id
        · exact (hnew4 k e).imp (fun q => .inr (.inr (.inl q))) id
        · simp only [List.mem_append, List.mem_singleton] at e
          rcases e with e | e
          · exact .inl (.inr (.inr (.inr e)))
          · exact .inr (by omega)
      · have := f9.chg cR (fun e => by have e' : fs = w.heap.size + 1 := e; omega)
        rw [Nat.zero_or] at this
        rw [hN]
        exact this
      · have := s9.chg cR (fun e => by have e' : ls = w.heap.size + 1 := e; omega)
        rw [Nat.zero_or] at this
        rw [hN]
        exact this
end Go.Proofs.YticipgjbgcdccaaDoor
namespace Go.Proofs.YticipgjbgcdccaaDoor
open Go.RowKit

theorem altP_snoc (g : Nt → Nt × Part) : ∀ (gs : List (Nt → Nt × Part)) (n : Nt) (o : Part), altP (gs ++ [g]) n o = ((g (altP gs n o).1).1, ⟨(altP gs n o).2.e || (g (altP gs n o).1).2.e, (altP gs n o).2.F ||| (g (altP gs n o).1).2.F, (altP gs n o).2.L ||| (g (altP gs n o).1).2.L⟩)
  | [], n, o => rfl
  | h :: gs, n, o => by simp only [List.cons_append, altP]; exact altP_snoc g gs _ _
theorem seqP_snoc (g : Nt → Nt × Part) : ∀ (gs : List (Nt → Nt × Part)) (n : Nt) (o : Part), seqP (gs ++ [g]) n o = catP (g (seqP gs n o).1).1 (seqP gs n o).2 (g (seqP gs n o).1).2
  | [], n, o => rfl
  | h :: gs, n, o => by simp only [List.cons_append, seqP]; exact seqP_snoc g gs _ _
theorem addsP_take (l : List Ex) (i : Nat) (hi : i < l.length) : addsP (l.take (i + 1)) = addsP (l.take i) ++ [addP l[i]] := by
  rw [addsP_eq, addsP_eq, List.take_succ_eq_append_getElem hi, List.map_append]; rfl
theorem posS_take_le (l : List Ex) (hr : ∀ x ∈ l, rightP x = true) (i : Nat) (hi : i ≤ l.length) : 0 ≤ positionsS (l.take i) ∧ positionsS (l.take i) ≤ positionsS l := by
  have h0 := positionsS_le (l.take i) fun x hx => hr x (List.mem_of_mem_take hx)
  refine ⟨h0.1, ?_⟩
  clear h0
  induction l generalizing i with
  | nil => simp
  | cons x l ih =>
    cases i with
    | zero =>
      have := positionsS_le (x :: l) hr
      simpa [positionsS] using this.1
    | succ i =>
      have := ih (fun y hy => hr y (by simp [hy])) i (by simpa using hi)
      simp only [List.take_succ_cons, positionsS]; omega
theorem lays_adds (N : Nat) (l : List Ex) (hr : ∀ x ∈ l, rightP x = true) (hp : positionsS l ≤ 4096) : ∀ (i : Nat) (g : Nt → Nt × Part) (j : Nat), (addsP l)[i]? = some g → (l.map fun x => (positionsP x).toNat)[i]? = some j → Lays N g j := by
  intro i g j hg hj
  rw [addsP_eq, List.getElem?_map] at hg
  rw [List.getElem?_map] at hj
  cases hx : l[i]? with
  | none => rw [hx] at hg; simp at hg
  | some x =>
    rw [hx] at hg hj
    simp only [Option.map_some, Option.some.injEq] at hg hj
    subst hg hj
    have hm : x ∈ l := List.mem_of_getElem? hx
    exact addP_lays N _ x (Nat.lt_succ_self _) (hr x hm) (by have := positionsP_le_S l hr x hm; omega)
/-- the net and the part behind the first parts of an alternative, of a row -/
theorem alt_state (l : List Ex) (hr : ∀ x ∈ l, rightP x = true) (hp : positionsS l ≤ 4096) (n : Nt) (hn : NtOk n.tk.length n) :
    NtOk (altP (addsP l) n ⟨false, 0, 0⟩).1.tk.length (altP (addsP l) n ⟨false, 0, 0⟩).1 ∧ PartOk (altP (addsP l) n ⟨false, 0, 0⟩).1.tk.length (altP (addsP l) n ⟨false, 0, 0⟩).2 ∧ (altP (addsP l) n ⟨false, 0, 0⟩).1.tk.length = n.tk.length + (positionsS l).toNat := by
  have hm : ∀ m ∈ n.fo, m < 2 ^ (n.tk.length + (l.map fun x => (positionsP x).toNat).sum) := fun m hm => Nat.lt_of_lt_of_le (hn.fo m hm) (Nat.pow_le_pow_right (by decide) (by omega))
  have := altP_lays (N := n.tk.length + (l.map fun x => (positionsP x).toNat).sum) (addsP l) (l.map fun x => (positionsP x).toNat) (by simp [addsP_eq]) (lays_adds _ l hr hp) n ⟨false, 0, 0⟩ ⟨hn.len, by omega, hm⟩ (PartOk.zero _ false) (Nat.le_refl _)
  rw [positionsS_nat l hr, this.2.2]
  exact ⟨this.1, this.2.1, rfl⟩
theorem seq_state (l : List Ex) (hr : ∀ x ∈ l, rightP x = true) (hp : positionsS l ≤ 4096) (n : Nt) (hn : NtOk n.tk.length n) :
    NtOk (seqP (addsP l) n ⟨true, 0, 0⟩).1.tk.length (seqP (addsP l) n ⟨true, 0, 0⟩).1 ∧ PartOk (seqP (addsP l) n ⟨true, 0, 0⟩).1.tk.length (seqP (addsP l) n ⟨true, 0, 0⟩).2 ∧ (seqP (addsP l) n ⟨true, 0, 0⟩).1.tk.length = n.tk.length + (positionsS l).toNat := by
  have hm : ∀ m ∈ n.fo, m < 2 ^ (n.tk.length + (l.map fun x => (positionsP x).toNat).sum) := fun m hm => Nat.lt_of_lt_of_le (hn.fo m hm) (Nat.pow_le_pow_right (by decide) (by omega))
  have := seqP_lays (N := n.tk.length + (l.map fun x => (positionsP x).toNat).sum) (addsP l) (l.map fun x => (positionsP x).toNat) (by simp [addsP_eq]) (lays_adds _ l hr hp) n ⟨true, 0, 0⟩ ⟨hn.len, by omega, hm⟩ (PartOk.zero _ true) (Nat.le_refl _)
  rw [positionsS_nat l hr, this.2.2]
  exact ⟨this.1, this.2.1, rfl⟩

theorem Deb.chg {w w' : World} {S : Nat → Prop} (h : Deb w) (hc : Chg S w w') (hn : ¬ S 0) : Deb w' := fun j hj => by
  have h0 := h j hj
  have hlt := World.block_lt_of_cell? _ _ h0
  simpa only [World.cell?, hc.block _ hlt hn] using h0
/-- add, at this pattern -/
def AddC (x : Ex) : Prop := ∀ (base G sz : Nat) (n : Nt) (vt vf v3 v4 v5 : Value) (fb : List Nat) (A : Option Addr) (ln c : Nat) (w : World), sz ≤ 1000 → NetAt w base G sz n vt vf v3 v4 v5 fb → Deb w → 0 < base → Sl w (fun k => k < base) A ln c x.l →
  NtOk n.tk.length n → n.tk.length + (positionsP x).toNat ≤ 64 * sz → n.tk.length + (positionsP x).toNat ≤ 4096 →
  Calls Tryd.prog 90 #[.pointer (some ⟨G, 0, none⟩), .agg #[.int .i64 x.k, .int .i64 x.f, .int .i64 x.t, .int .i64 x.a, .int .i64 x.b, .slice A ln c]] w
    (AddPost w base G sz vt vf v3 v4 v5 fb (addP x n))

theorem Grow.after {w0 w w' : World} {S : Nat → Prop} {base G sz : Nat} {vt0 vf0 : Value} {fb0 : List Nat} {n : Nt} {vt vf v3 v4 v5 : Value} {fb : List Nat} (h : Grow w0 w base G sz vt0 vf0 fb0 n vt vf v3 v4 v5 fb) (hc : Chg S w w') (hS : ∀ k, NetS G vt vf fb k → ¬ S k) (hw : ∀ k, S k → w0.heap.size ≤ k) :
    Grow w0 w' base G sz vt0 vf0 fb0 n vt vf v3 v4 v5 fb where
  net := h.net.keep hc hS
  chg := h.chg.then_ hc fun i hi e => by have := hw i e; omega
  new := h.new
theorem Grow.start {w w' : World} {base G sz : Nat} {n : Nt} {vt vf v3 v4 v5 : Value} {fb : List Nat} (h : NetAt w base G sz n vt vf v3 v4 v5 fb) (hc : Chg No w w') : Grow w w' base G sz vt vf fb n vt vf v3 v4 v5 fb :=
  ⟨h.keepNo hc, hc.mono fun _ _ e => e.elim, fun _ hk => .inl hk⟩
/-- what is no block of the net's stays none -/
theorem Grow.not_new {w0 w : World} {base G sz : Nat} {vt0 vf0 : Value} {fb0 : List Nat} {n : Nt} {vt vf v3 v4 v5 : Value} {fb : List Nat} (h : Grow w0 w base G sz vt0 vf0 fb0 n vt vf v3 v4 v5 fb) {k : Nat} (hk : ¬ NetS G vt0 vf0 fb0 k) (hlt : k < w0.heap.size) : ¬ NetS G vt vf fb k := fun e => (h.new k e).elim hk fun q => by omega
theorem Grow.deb {w0 w : World} {base G sz : Nat} {vt0 vf0 : Value} {fb0 : List Nat} {n n0 : Nt} {vt vf v3 v4 v5 : Value} {fb : List Nat} (h : Grow w0 w base G sz vt0 vf0 fb0 n vt vf v3 v4 v5 fb) (h0 : NetAt w0 base G sz n0 vt0 vf0 v3 v4 v5 fb0) (hd : Deb w0) (hg : 0 < base) : Deb w :=
  hd.chg h.chg fun e => by have := h0.base_le e; omega
theorem Grow.sl {w0 w : World} {base G sz : Nat} {vt0 vf0 : Value} {fb0 : List Nat} {n n0 : Nt} {vt vf v3 v4 v5 : Value} {fb : List Nat} (h : Grow w0 w base G sz vt0 vf0 fb0 n vt vf v3 v4 v5 fb) (h0 : NetAt w0 base G sz n0 vt0 vf0 v3 v4 v5 fb0) {A : Option Addr} {ln c : Nat} {l : List Ex} (hl : Sl w0 (fun k => k < base) A ln c l) :
    Sl w (fun k => k < base) A ln c l := hl.chg h.chg fun k hk e => by have := h0.base_le e; omega

/-- the end of add: its result is stored -/
theorem add_close {w wr : World} {base G sz R f l : Nat} {vt0 vf0 : Value} {fb0 : List Nat} {n : Nt} {o : Part} {vt vf v3 v4 v5 : Value} {fb : List Nat} {cs : Array Value} (x y z : Value) (h : Grow w wr base G sz vt0 vf0 fb0 n vt vf v3 v4 v5 fb) (hp : PartAt wr sz f l fb o) (hf : w.heap.size ≤ f) (hl : w.heap.size ≤ l) (hfl : f ≠ l)
    (hR : Blk wr R 109 cs) (hRw : w.heap.size ≤ R) : AddPost w base G sz vt0 vf0 v3 v4 v5 fb0 (n, o) (.returned (partV sz o.e f l)) (((wr.setCell ⟨R, 0, none⟩ x).setCell ⟨R, 1, none⟩ y).setCell ⟨R, 2, none⟩ z) := by
  have cR : Chg (One R) wr (((wr.setCell ⟨R, 0, none⟩ x).setCell ⟨R, 1, none⟩ y).setCell ⟨R, 2, none⟩ z) :=
    Chg.setCell (S := One R) (Chg.setCell (S := One R) (Chg.setCell (S := One R) (Chg.refl (One R) wr) (p := ⟨R, 0, none⟩) _ fun _ => rfl) (p := ⟨R, 1, none⟩) _ fun _ => rfl) (p := ⟨R, 2, none⟩) _ fun _ => rfl
  refine ⟨vt, vf, fb, f, l, rfl, h.after cR (fun k hk e => ?_) (fun k e => ?_), ⟨hp.F.chg cR fun e => hp.F.1.ne_ hR (by decide) e, hp.L.chg cR fun e => hp.L.1.ne_ hR (by decide) e, hp.nF, hp.nL⟩, hf, hl, hfl⟩
  · have e' : k = R := e
    subst e'
    exact h.net.not_net hR (by decide) (by decide) (by decide) (.inl (by decide)) hk
  · have e' : k = R := e
    omega

/-- what the loops of add keep: the net so far, the part so far, its variable O -/
structure AltI (w wr : World) (base G sz : Nat) (vt vf v3 v4 v5 : Value) (fb : List Nat) (O : Nat) (n : Nt) (o : Part) (vt' vf' : Value) (fb' : List Nat) (f l : Nat) : Prop where
  grow : Grow w wr base G sz vt vf fb n vt' vf' v3 v4 v5 fb'
  part : PartAt wr sz f l fb' o
  ne : f ≠ l
  hf : w.heap.size ≤ f
  hl : w.heap.size ≤ l
  blk : Blk wr O 109 #[.bool o.e, .slice (some ⟨f, 0, none⟩) sz sz, .slice (some ⟨l, 0, none⟩) sz sz]

set_option maxHeartbeats 2000000 in
set_option maxRecDepth 100000 in
theorem add_alt (f0 t0 a b : Int) (lst : List Ex) (hR : rightP (.mk 3 f0 t0 a b lst) = true) (IHP : ∀ y ∈ lst, AddC y) (hpos : positionsS lst ≤ 4096) : AddC (.mk 3 f0 t0 a b lst) := by
  intro base G sz n vt vf v3 v4 v5 fb A ln c w hz hn hd hg hl hok hr1 hr2
  simp only [Ex.k, Ex.f, Ex.t, Ex.a, Ex.b, Ex.l] at hl ⊢
  have HD := Lib.hid hd
  have IH := Lib.hid IHP
  obtain ⟨rfl, hc1, hc2⟩ : ln = lst.length ∧ lst.length ≤ c ∧ c ≤ 9223372036854775807 := ⟨hl.1, by have := hl.2.1; have := hl.1; omega, hl.2.2.1⟩
  obtain ⟨hh, hr⟩ := rightP_head hR
  have hposE : positionsP (.mk 3 f0 t0 a b lst) = positionsS lst := by
    unfold positionsP
    rw [if_neg (by omega), if_neg (by omega)]; omega
  rw [hposE] at hr1 hr2
  have hF : addP (.mk 3 f0 t0 a b lst) n = altP (addsP lst) n ⟨false, 0, 0⟩ := by unfold addP; rw [if_neg (by omega), if_pos rfl]
  rw [hF]
  have hx := Blk.new w 25 #[.int .i64 3, .int .i64 f0, .int .i64 t0, .int .i64 a, .int .i64 b, .slice A lst.length c]
  have c0 : Chg No w ((w.alloc (.cells #[.int .i64 3, .int .i64 f0, .int .i64 t0, .int .i64 a, .int .i64 b, .slice A lst.length c] 25)).alloc (.cells #[.bool false, .slice none 0 0, .slice none 0 0] 109)) := ((Chg.refl No w).alloc _).alloc _
  have hx0 := hx.alloc (.cells #[.bool false, .slice none 0 0, .slice none 0 0] 109)
  have hr0 : Blk ((w.alloc (.cells #[.int .i64 3, .int .i64 f0, .int .i64 t0, .int .i64 a, .int .i64 b, .slice A lst.length c] 25)).alloc (.cells #[.bool false, .slice none 0 0, .slice none 0 0] 109)) (w.heap.size + 1) 109 #[.bool false, .slice none 0 0, .slice none 0 0] := Blk.new' (by simp)
  have g0 := (hn.blk.chg c0 id).cell 0
  simp only [List.getElem?_toArray, List.getElem?_cons_zero, List.getElem?_cons_succ] at g0
  have hbare := bare_any G sz false _ hz g0
  unfold partV at hbare
  have HP := Lib.hid hpos
  have HR := Lib.hid hr
  clear hh hd hpos hr hR IHP
  go_enter Tryd.func90, Tryd.ntmps90
  go_wp2_with fail
  refine hbare.mono ?_
  rintro e w1 ⟨fs, ls, rfl, hf, hfl, hs1, hs2, c1⟩
  clear hbare g0
  have c2 : Chg No w (w1.alloc (.cells #[.bool false, .slice (some ⟨fs, 0, none⟩) sz sz, .slice (some ⟨ls, 0, none⟩) sz sz] 109)) := (c0.trans c1).alloc _
  have c2' : Chg No ((w.alloc (.cells #[.int .i64 3, .int .i64 f0, .int .i64 t0, .int .i64 a, .int .i64 b, .slice A lst.length c] 25)).alloc (.cells #[.bool false, .slice none 0 0, .slice none 0 0] 109)) (w1.alloc (.cells #[.bool false, .slice (some ⟨fs, 0, none⟩) sz sz, .slice (some ⟨ls, 0, none⟩) sz sz] 109)) := c1.alloc _
  have bo := Blk.new w1 109 #[.bool false, .slice (some ⟨fs, 0, none⟩) sz sz, .slice (some ⟨ls, 0, none⟩) sz sz]
  have a2 : Chg No w1 (w1.alloc (.cells #[.bool false, .slice (some ⟨fs, 0, none⟩) sz sz, .slice (some ⟨ls, 0, none⟩) sz sz] 109)) := (Chg.refl No w1).alloc _
  have hs1' := hs1.chg a2 id
  have hs2' := hs2.chg a2 id
  have hx2 := hx0.chg c2' id
  have hr2' := hr0.chg c2' id
  have x5 := hx2.cell 5
  simp only [List.getElem?_toArray, List.getElem?_cons_zero, List.getElem?_cons_succ] at x5
  have hfz : w.heap.size + 2 ≤ fs := by simpa using hf
  have hoz : w.heap.size + 2 ≤ w1.heap.size := by have := c1.size; simpa using this
  go_wp2_with fail
  go_loopw [66] (fun v66 wr => ∃ (i : Nat) (vt' vf' : Value) (fb' : List Nat) (f l : Nat), i ≤ lst.length ∧ v66 = .int .i64 (i : Int) ∧ AltI w wr base G sz vt vf v3 v4 v5 fb w1.heap.size (altP (addsP (lst.take i)) n ⟨false, 0, 0⟩).1 (altP (addsP (lst.take i)) n ⟨false, 0, 0⟩).2 vt' vf' fb' f l ∧ Blk wr (w.heap.size + 1) 109 #[.bool false, .slice none 0 0, .slice none 0 0]) (fun v _ => lst.length - (intOf v).toNat)
  case atStart =>
    refine ⟨0, vt, vf, fb, fs, ls, Nat.zero_le _, rfl, ⟨Grow.start hn c2, ⟨hs1', hs2', fun e => ?_, fun e => ?_⟩, by omega, by omega, by omega, bo⟩, hr2'⟩
    · have := hn.fb_lt fs e; omega
    · have := hn.fb_lt ls e; omega
  case round =>
    obtain ⟨i, vt', vf', fb', f, l, hi, rfl, hI, hRb⟩ := hrel
    by_cases hlt : i < lst.length
    · have hst := alt_state (lst.take i) (fun x hx => HR.out x (List.mem_of_mem_take hx)) (by have := (posS_take_le lst HR.out i (by omega)).2; have := HP.out; omega) n hok
      obtain ⟨st1, st2, st3⟩ := hst
      have hsn := altP_snoc (addP lst[i]) (addsP (lst.take i)) n ⟨false, 0, 0⟩
      rw [← addsP_take lst i hlt] at hsn
      have hps := positionsS_take lst i hlt
      have hps2 := (posS_take_le lst HR.out (i + 1) (by omega)).2
      have hps3 := (posS_take_le lst HR.out i (by omega)).1
      have hps4 := positionsP_le lst[i] (HR.out _ (List.getElem_mem hlt))
      obtain ⟨r, hr⟩ : ∃ r, altP (addsP (lst.take i)) n ⟨false, 0, 0⟩ = r := ⟨_, rfl⟩
      rw [hr] at hI st1 st2 st3 hsn
      obtain ⟨n1, o⟩ := r
      simp only at hI st1 st2 st3 hsn
      obtain ⟨g, oo, A', c', hA, hS, x0, x1, x2, x3, x4, x5, hxx⟩ := (hI.grow.sl hn hl).at_ i hlt
      subst hA
      have hy := IH.out lst[i] (List.getElem_mem hlt)
      have hI1 := hI.part.F.lt
      have hI2 := hI.part.L.lt
      have HSN := Lib.hid hsn
      clear hr hsn
      have cA : Chg No wr (wr.alloc (.cells #[.int .i64 lst[i].k, .int .i64 lst[i].f, .int .i64 lst[i].t, .int .i64 lst[i].a, .int .i64 lst[i].b, .slice A' lst[i].l.length c'] 25)) := (Chg.refl No wr).alloc _
      have nA := hI.grow.net.keepNo cA
      have hcall := hy base G sz n1 vt' vf' v3 v4 v5 fb' A' _ c' _ hz nA ((hI.grow.deb hn HD.out hg).chg cA id) hg (hxx.chgNo cA) st1 (by omega) (by omega)
      obtain ⟨q, hq⟩ : ∃ q, addP lst[i] n1 = q := ⟨_, rfl⟩
      rw [hq] at hcall HSN
      obtain ⟨n2, p⟩ := q
      clear hq hy
      go_wp2_with fail
      refine hcall.mono ?_
      rintro e w2 ⟨vt2, vf2, fb2, f2, l2, rfl, hG2, hp2, hf2, hl2, hfl2⟩
      clear hcall
      unfold partV
      simp only at hG2 hp2 ⊢
      have nO := nA.not_net (hI.blk.chg cA id) (by decide) (by decide) (by decide) (.inl (by decide))
      have nR := nA.not_net (hRb.chg cA id) (by decide) (by decide) (by decide) (.inl (by decide))
      have sfA := hI.part.F.chg cA id
      have slA := hI.part.L.chg cA id
      have nf := nA.not_net sfA.1 (by decide) (by decide) (by decide) (.inr hI.part.nF)
      have nl := nA.not_net slA.1 (by decide) (by decide) (by decide) (.inr hI.part.nL)
      have a3 : Chg No w2 (w2.alloc (.cells #[.bool p.e, .slice (some ⟨f2, 0, none⟩) sz sz, .slice (some ⟨l2, 0, none⟩) sz sz] 109)) := (Chg.refl No w2).alloc _
      have bO := ((hI.blk.chg cA id).chg hG2.chg nO).chg a3 id
      have bR := ((hRb.chg cA id).chg hG2.chg nR).chg a3 id
      have bT := Blk.new w2 109 #[.bool p.e, .slice (some ⟨f2, 0, none⟩) sz sz, .slice (some ⟨l2, 0, none⟩) sz sz]
      have sf := (sfA.chg hG2.chg nf).chg a3 id
      have sl := (slA.chg hG2.chg nl).chg a3 id
      have sf2 := hp2.F.chg a3 id
      have sl2 := hp2.L.chg a3 id
      have hOl := hI.blk.lt
      have hzA := cA.size
      have hz2 := hG2.chg.size
      have m1 : ¬ w2.heap.size = w1.heap.size := by omega
      have m2 : ¬ w1.heap.size = w2.heap.size := by omega
      obtain ⟨o0, o1, o2, o3, _⟩ := part_cells bO
      obtain ⟨p0, p1, p2, _⟩ := part_cells bT
      cases hoe : o.e
      · skip
        rw [hoe] at o0
        go_wp2_with fail
        have c4 : Chg (One w1.heap.size) (w2.alloc (.cells #[.bool p.e, .slice (some ⟨f2, 0, none⟩) sz sz, .slice (some ⟨l2, 0, none⟩) sz sz] 109)) ((w2.alloc (.cells #[.bool p.e, .slice (some ⟨f2, 0, none⟩) sz sz, .slice (some ⟨l2, 0, none⟩) sz sz] 109)).setCell ⟨w1.heap.size, 0, none⟩ (.bool p.e)) := Chg.setCell (S := One w1.heap.size) (Chg.refl (One w1.heap.size) _) (p := ⟨w1.heap.size, 0, none⟩) _ fun _ => rfl
        have sf4 := sf.chg c4 (sf.1.ne_ bO (by decide))
        have sl4 := sl.chg c4 (sl.1.ne_ bO (by decide))
        have sf24 := sf2.chg c4 (sf2.1.ne_ bO (by decide))
        have sl24 := sl2.chg c4 (sl2.1.ne_ bO (by decide))
        have bO4 : Blk ((w2.alloc (.cells #[.bool p.e, .slice (some ⟨f2, 0, none⟩) sz sz, .slice (some ⟨l2, 0, none⟩) sz sz] 109)).setCell ⟨w1.heap.size, 0, none⟩ (.bool p.e)) w1.heap.size 109 #[.bool p.e, .slice (some ⟨f, 0, none⟩) sz sz, .slice (some ⟨l, 0, none⟩) sz sz] := bO.set_ 0 (.bool p.e)
        have bT4 := bT.chg c4 (fun e => by have e' : w2.heap.size = w1.heap.size := e; omega)
        have bR4 := bR.chg c4 (fun e => by have e' : w.heap.size + 1 = w1.heap.size := e; omega)
        have hS : CatS ((w2.alloc (.cells #[.bool p.e, .slice (some ⟨f2, 0, none⟩) sz sz, .slice (some ⟨l2, 0, none⟩) sz sz] 109)).setCell ⟨w1.heap.size, 0, none⟩ (.bool p.e)) sz f l o.F o.L ((w2.alloc (.cells #[.bool p.e, .slice (some ⟨f2, 0, none⟩) sz sz, .slice (some ⟨l2, 0, none⟩) sz sz] 109)).setCell ⟨w1.heap.size, 0, none⟩ (.bool p.e)) := ⟨Chg.refl _ _, sf4, sl4⟩
        refine (hS.joinF hz hI.ne sf24 (by omega) (by omega)).mono ?_
        rintro e w5 ⟨⟨_, rfl⟩, hS5⟩
        clear o0 o1 o2 o3 p0 p1 p2
        obtain ⟨o0, o1, o2, _⟩ := part_cells (hS5.part sf4 sl4 bO4)
        obtain ⟨p0, p1, p2, _⟩ := part_cells (hS5.part sf4 sl4 bT4)
        go_wp2_with fail
        refine (hS5.joinL hz hI.ne sl24 (by omega) (by omega)).mono ?_
        rintro e w6 ⟨⟨_, rfl⟩, hS6⟩
        go_wp2
        refine ⟨⟨i + 1, vt2, vf2, fb2, f, l, by omega, by go_num, ?_, hS6.part sf4 sl4 bR4⟩, by simp [intOf]; omega⟩
        have cF : Chg (fun k => k = w1.heap.size ∨ k = f ∨ k = l) w2 w6 := (a3.mono fun _ _ e => e.elim).then_ (((c4.mono fun k _ e => .inl e) : Chg (fun k => k = w1.heap.size ∨ k = f ∨ k = l) _ _).then_ hS6.1 fun k _ e => .inr e) fun _ _ e => e
        rw [HSN.out]
        have hfl0 := hI.hf
        have hll0 := hI.hl
        refine ⟨((hI.grow.after cA (fun _ _ => id) (fun _ e => e.elim)).trans hG2).after cF ?_ ?_, ⟨hS6.2.1, hS6.2.2, fun e => hG2.not_new nf (by omega) (.inr (.inr (.inr e))), fun e => hG2.not_new nl (by omega) (.inr (.inr (.inr e)))⟩, hI.ne, hI.hf, hI.hl, ?_⟩
        · rintro k hk (rfl | rfl | rfl)
          · exact hG2.not_new nO (by omega) hk
          · exact hG2.not_new nf (by omega) hk
          · exact hG2.not_new nl (by omega) hk
        · rintro k (rfl | rfl | rfl) <;> omega
        · simp only [hoe]
          exact hS6.part sf4 sl4 bO4
      · skip
        rw [hoe] at o0
        go_wp2_with fail
        have c4 : Chg (One w1.heap.size) (w2.alloc (.cells #[.bool p.e, .slice (some ⟨f2, 0, none⟩) sz sz, .slice (some ⟨l2, 0, none⟩) sz sz] 109)) ((w2.alloc (.cells #[.bool p.e, .slice (some ⟨f2, 0, none⟩) sz sz, .slice (some ⟨l2, 0, none⟩) sz sz] 109)).setCell ⟨w1.heap.size, 0, none⟩ (.bool true)) := Chg.setCell (S := One w1.heap.size) (Chg.refl (One w1.heap.size) _) (p := ⟨w1.heap.size, 0, none⟩) _ fun _ => rfl
        have sf4 := sf.chg c4 (sf.1.ne_ bO (by decide))
        have sl4 := sl.chg c4 (sl.1.ne_ bO (by decide))
        have sf24 := sf2.chg c4 (sf2.1.ne_ bO (by decide))
        have sl24 := sl2.chg c4 (sl2.1.ne_ bO (by decide))
        have bO4 : Blk ((w2.alloc (.cells #[.bool p.e, .slice (some ⟨f2, 0, none⟩) sz sz, .slice (some ⟨l2, 0, none⟩) sz sz] 109)).setCell ⟨w1.heap.size, 0, none⟩ (.bool true)) w1.heap.size 109 #[.bool true, .slice (some ⟨f, 0, none⟩) sz sz, .slice (some ⟨l, 0, none⟩) sz sz] := bO.set_ 0 (.bool true)
        have bT4 := bT.chg c4 (fun e => by have e' : w2.heap.size = w1.heap.size := e; omega)
        have bR4 := bR.chg c4 (fun e => by have e' : w.heap.size + 1 = w1.heap.size := e; omega)
        have hS : CatS ((w2.alloc (.cells #[.bool p.e, .slice (some ⟨f2, 0, none⟩) sz sz, .slice (some ⟨l2, 0, none⟩) sz sz] 109)).setCell ⟨w1.heap.size, 0, none⟩ (.bool true)) sz f l o.F o.L ((w2.alloc (.cells #[.bool p.e, .slice (some ⟨f2, 0, none⟩) sz sz, .slice (some ⟨l2, 0, none⟩) sz sz] 109)).setCell ⟨w1.heap.size, 0, none⟩ (.bool true)) := ⟨Chg.refl _ _, sf4, sl4⟩
        refine (hS.joinF hz hI.ne sf24 (by omega) (by omega)).mono ?_
        rintro e w5 ⟨⟨_, rfl⟩, hS5⟩
        clear o0 o1 o2 o3 p0 p1 p2
        obtain ⟨o0, o1, o2, _⟩ := part_cells (hS5.part sf4 sl4 bO4)
        obtain ⟨p0, p1, p2, _⟩ := part_cells (hS5.part sf4 sl4 bT4)
        go_wp2_with fail
        refine (hS5.joinL hz hI.ne sl24 (by omega) (by omega)).mono ?_
        rintro e w6 ⟨⟨_, rfl⟩, hS6⟩
        go_wp2
        refine ⟨⟨i + 1, vt2, vf2, fb2, f, l, by omega, by go_num, ?_, hS6.part sf4 sl4 bR4⟩, by simp [intOf]; omega⟩
        have cF : Chg (fun k => k = w1.heap.size ∨ k = f ∨ k = l) w2 w6 := (a3.mono fun _ _ e => e.elim).then_ (((c4.mono fun k _ e => .inl e) : Chg (fun k => k = w1.heap.size ∨ k = f ∨ k = l) _ _).then_ hS6.1 fun k _ e => .inr e) fun _ _ e => e
        rw [HSN.out]
        have hfl0 := hI.hf
        have hll0 := hI.hl
        refine ⟨((hI.grow.after cA (fun _ _ => id) (fun _ e => e.elim)).trans hG2).after cF ?_ ?_, ⟨hS6.2.1, hS6.2.2, fun e => hG2.not_new nf (by omega) (.inr (.inr (.inr e))), fun e => hG2.not_new nl (by omega) (.inr (.inr (.inr e)))⟩, hI.ne, hI.hf, hI.hl, ?_⟩
        · rintro k hk (rfl | rfl | rfl)
          · exact hG2.not_new nO (by omega) hk
          · exact hG2.not_new nf (by omega) hk
          · exact hG2.not_new nl (by omega) hk
        · rintro k (rfl | rfl | rfl) <;> omega
        · simp only [hoe]
          exact hS6.part sf4 sl4 bO4
    · obtain rfl : i = lst.length := by omega
      rw [List.take_length] at hI
      obtain ⟨o0, o1, o2, _⟩ := part_cells hI.blk
      obtain ⟨q1, q2, q3, q4, q5, q6⟩ := part_cells hRb
      go_wp2
      have hbz := ((hRb.set_ 0 (.bool (altP (addsP lst) n ⟨false, 0, 0⟩).2.e)).set_ 1 (.slice (some ⟨f, 0, none⟩) sz sz)).set_ 2 (.slice (some ⟨l, 0, none⟩) sz sz)
      refine bodyPost_ret_part rfl rfl rfl hbz ?_
      exact add_close _ _ _ hI.grow hI.part hI.hf hI.hl hI.ne hRb (by omega)
end Go.Proofs.YticipgjbgcdccaaDoor
namespace Go.Proofs.YticipgjbgcdccaaDoor
open Go.RowKit

set_option maxHeartbeats 2000000 in
set_option maxRecDepth 100000 in
theorem add_seq (f0 t0 a b : Int) (lst : List Ex) (hR : rightP (.mk 2 f0 t0 a b lst) = true) (IHP : ∀ y ∈ lst, AddC y) (hpos : positionsS lst ≤ 4096) : AddC (.mk 2 f0 t0 a b lst) := by
  intro base G sz n vt vf v3 v4 v5 fb A ln c w hz hn hd hg hl hok hr1 hr2
  simp only [Ex.k, Ex.f, Ex.t, Ex.a, Ex.b, Ex.l] at hl ⊢
  have HD := Lib.hid hd
  have IH := Lib.hid IHP
  obtain ⟨rfl, hc1, hc2⟩ : ln = lst.length ∧ lst.length ≤ c ∧ c ≤ 9223372036854775807 := ⟨hl.1, by have := hl.2.1; have := hl.1; omega, hl.2.2.1⟩
  obtain ⟨hh, hr⟩ := rightP_head hR
  have hposE : positionsP (.mk 2 f0 t0 a b lst) = positionsS lst := by
    unfold positionsP
    rw [if_neg (by omega), if_neg (by omega)]; omega
  rw [hposE] at hr1 hr2
  have hF : addP (.mk 2 f0 t0 a b lst) n = seqP (addsP lst) n ⟨true, 0, 0⟩ := by unfold addP; rw [if_neg (by omega), if_neg (by omega), if_neg (by omega)]
  rw [hF]
  have hx := Blk.new w 25 #[.int .i64 2, .int .i64 f0, .int .i64 t0, .int .i64 a, .int .i64 b, .slice A lst.length c]
  have c0 : Chg No w ((w.alloc (.cells #[.int .i64 2, .int .i64 f0, .int .i64 t0, .int .i64 a, .int .i64 b, .slice A lst.length c] 25)).alloc (.cells #[.bool false, .slice none 0 0, .slice none 0 0] 109)) := ((Chg.refl No w).alloc _).alloc _
  have hx0 := hx.alloc (.cells #[.bool false, .slice none 0 0, .slice none 0 0] 109)
  have hr0 : Blk ((w.alloc (.cells #[.int .i64 2, .int .i64 f0, .int .i64 t0, .int .i64 a, .int .i64 b, .slice A lst.length c] 25)).alloc (.cells #[.bool false, .slice none 0 0, .slice none 0 0] 109)) (w.heap.size + 1) 109 #[.bool false, .slice none 0 0, .slice none 0 0] := Blk.new' (by simp)
  have g0 := (hn.blk.chg c0 id).cell 0
  simp only [List.getElem?_toArray, List.getElem?_cons_zero, List.getElem?_cons_succ] at g0
  have hbare := bare_any G sz true _ hz g0
  unfold partV at hbare
  have HP := Lib.hid hpos
  have HR := Lib.hid hr
  clear hh hd hpos hr hR IHP
  go_enter Tryd.func90, Tryd.ntmps90
  go_wp2_with fail
  refine hbare.mono ?_
  rintro e w1 ⟨fs, ls, rfl, hf, hfl, hs1, hs2, c1⟩
  clear hbare g0
  have c2 : Chg No w (w1.alloc (.cells #[.bool true, .slice (some ⟨fs, 0, none⟩) sz sz, .slice (some ⟨ls, 0, none⟩) sz sz] 109)) := (c0.trans c1).alloc _
  have c2' : Chg No ((w.alloc (.cells #[.int .i64 2, .int .i64 f0, .int .i64 t0, .int .i64 a, .int .i64 b, .slice A lst.length c] 25)).alloc (.cells #[.bool false, .slice none 0 0, .slice none 0 0] 109)) (w1.alloc (.cells #[.bool true, .slice (some ⟨fs, 0, none⟩) sz sz, .slice (some ⟨ls, 0, none⟩) sz sz] 109)) := c1.alloc _
  have bo := Blk.new w1 109 #[.bool true, .slice (some ⟨fs, 0, none⟩) sz sz, .slice (some ⟨ls, 0, none⟩) sz sz]
  have a2 : Chg No w1 (w1.alloc (.cells #[.bool true, .slice (some ⟨fs, 0, none⟩) sz sz, .slice (some ⟨ls, 0, none⟩) sz sz] 109)) := (Chg.refl No w1).alloc _
  have hs1' := hs1.chg a2 id
  have hs2' := hs2.chg a2 id
  have hx2 := hx0.chg c2' id
  have hr2' := hr0.chg c2' id
  have x5 := hx2.cell 5
  simp only [List.getElem?_toArray, List.getElem?_cons_zero, List.getElem?_cons_succ] at x5
  have hfz : w.heap.size + 2 ≤ fs := by simpa using hf
  have hoz : w.heap.size + 2 ≤ w1.heap.size := by have := c1.size; simpa using this
  go_wp2_with fail
  go_loopw [102] (fun v66 wr => ∃ (i : Nat) (vt' vf' : Value) (fb' : List Nat) (f l : Nat), i ≤ lst.length ∧ v66 = .int .i64 (i : Int) ∧ AltI w wr base G sz vt vf v3 v4 v5 fb w1.heap.size (seqP (addsP (lst.take i)) n ⟨true, 0, 0⟩).1 (seqP (addsP (lst.take i)) n ⟨true, 0, 0⟩).2 vt' vf' fb' f l ∧ Blk wr (w.heap.size + 1) 109 #[.bool false, .slice none 0 0, .slice none 0 0]) (fun v _ => lst.length - (intOf v).toNat)
  case atStart =>
    refine ⟨0, vt, vf, fb, fs, ls, Nat.zero_le _, rfl, ⟨Grow.start hn c2, ⟨hs1', hs2', fun e => ?_, fun e => ?_⟩, by omega, by omega, by omega, bo⟩, hr2'⟩
    · have := hn.fb_lt fs e; omega
    · have := hn.fb_lt ls e; omega
  case round =>
    obtain ⟨i, vt', vf', fb', f, l, hi, rfl, hI, hRb⟩ := hrel
    by_cases hlt : i < lst.length
    · have hst := seq_state (lst.take i) (fun x hx => HR.out x (List.mem_of_mem_take hx)) (by have := (posS_take_le lst HR.out i (by omega)).2; have := HP.out; omega) n hok
      obtain ⟨st1, st2, st3⟩ := hst
      have hsn := seqP_snoc (addP lst[i]) (addsP (lst.take i)) n ⟨true, 0, 0⟩
      rw [← addsP_take lst i hlt] at hsn
      have hps := positionsS_take lst i hlt
      have hps2 := (posS_take_le lst HR.out (i + 1) (by omega)).2
      have hps3 := (posS_take_le lst HR.out i (by omega)).1
      have hps4 := positionsP_le lst[i] (HR.out _ (List.getElem_mem hlt))
      obtain ⟨r, hr⟩ : ∃ r, seqP (addsP (lst.take i)) n ⟨true, 0, 0⟩ = r := ⟨_, rfl⟩
      rw [hr] at hI st1 st2 st3 hsn
      obtain ⟨n1, o⟩ := r
      simp only at hI st1 st2 st3 hsn
      obtain ⟨g, oo, A', c', hA, hS, x0, x1, x2, x3, x4, x5, hxx⟩ := (hI.grow.sl hn hl).at_ i hlt
      subst hA
      have hy := IH.out lst[i] (List.getElem_mem hlt)
      have hI1 := hI.part.F.lt
      have hI2 := hI.part.L.lt
      have HSN := Lib.hid hsn
      clear hr hsn
      have hlays := addP_lays (n1.tk.length + (positionsP lst[i]).toNat) _ lst[i] (Nat.lt_succ_self _) (HR.out _ (List.getElem_mem hlt)) (by have := HP.out; omega) n1 ⟨st1.len, by omega, fun m hm => Nat.lt_of_lt_of_le (st1.fo m hm) (Nat.pow_le_pow_right (by decide) (by omega))⟩ (Nat.le_refl _)
      have cA : Chg No wr (wr.alloc (.cells #[.int .i64 lst[i].k, .int .i64 lst[i].f, .int .i64 lst[i].t, .int .i64 lst[i].a, .int .i64 lst[i].b, .slice A' lst[i].l.length c'] 25)) := (Chg.refl No wr).alloc _
      have cB : Chg No wr (wr.alloc (.cells #[.int .i64 lst[i].k, .int .i64 lst[i].f, .int .i64 lst[i].t, .int .i64 lst[i].a, .int .i64 lst[i].b, .slice A' lst[i].l.length c'] 25)).drew := cA.drew
      have nA := hI.grow.net.keepNo cB
      have dA := (hI.grow.deb hn HD.out hg).chg cB id
      have hcall := hy base G sz n1 vt' vf' v3 v4 v5 fb' A' _ c' _ hz nA dA hg (hxx.chgNo cB) st1 (by omega) (by omega)
      obtain ⟨q, hq⟩ : ∃ q, addP lst[i] n1 = q := ⟨_, rfl⟩
      rw [hq] at hcall HSN hlays
      obtain ⟨n2, p⟩ := q
      simp only at hlays
      obtain ⟨hl1, hl2, hl3⟩ := hlays
      clear hq hy
      have nO := nA.not_net (hI.blk.chg cB id) (by decide) (by decide) (by decide) (.inl (by decide))
      have nR := nA.not_net (hRb.chg cB id) (by decide) (by decide) (by decide) (.inl (by decide))
      have sfA := hI.part.F.chg cB id
      have slA := hI.part.L.chg cB id
      have nf := nA.not_net sfA.1 (by decide) (by decide) (by decide) (.inr hI.part.nF)
      have nl := nA.not_net slA.1 (by decide) (by decide) (by decide) (.inr hI.part.nL)
      have hOl := hI.blk.lt
      have hzB := cB.size
      have hokL : ∀ q, o.L.testBit q = true → q < n2.fo.length := fun q hq => by
        have h1 := hl1.len
        have h3 : q < n1.tk.length := Nat.lt_of_not_le fun h => by rw [testBit_zero_of_lt st2.L h] at hq; cases hq
        omega
      obtain ⟨o0, o1, o2, _⟩ := part_cells (hI.blk.chg cA id)
      have hcat := fun (w2 : World) (vt2 vf2 : Value) (fb2 : List Nat) (f2 l2 : Nat) (hnet : NetAt w2 base G sz n2 vt2 vf2 v3 v4 v5 fb2) (ha : PartAt w2 sz f l fb2 o) (hb : PartAt w2 sz f2 l2 fb2 p) (hd : Deb w2) => cat_any base G sz n2 vt2 vf2 v3 v4 v5 fb2 w2 o p f l f2 l2 hz hnet ha hb hd hg hokL
      unfold partV at hcat
      unfold AddPost partV at hcall
      simp only at hcall
      clear hokL
      go_wp2_with fail
      go_region_law (first | (go_simp; go_at_call 90; refine hcall.mono ?_; rintro e w2 ⟨vt2, vf2, fb2, f2, l2, rfl, hG2, hp2, hf2, hl2, hfl2⟩; have bO2 := (hI.blk.chg cB id).chg hG2.chg nO; obtain ⟨u0, u1, u2, _⟩ := part_cells bO2; have hP2 : PartAt w2 sz f l fb2 o := ⟨sfA.chg hG2.chg nf, slA.chg hG2.chg nl, fun e => hG2.not_new nf (by omega) (.inr (.inr (.inr e))), fun e => hG2.not_new nl (by omega) (.inr (.inr (.inr e)))⟩) | (go_simp; go_at_call 121; refine (hcat w2 vt2 vf2 fb2 f2 l2 hG2.net hP2 hp2 (hG2.deb nA dA hg)).mono ?_; rintro e w6 ⟨f6, l6, rfl, hf6, hl6, hfl6, s6, t6, n6, c6⟩; have bO6 := bO2.chg c6 (hG2.net.not_fb bO2 (by decide)); obtain ⟨w0, w1_, w2_, w3_, w4_, w5_⟩ := part_cells bO6))
      all_goals
        go_wp2
        have cO : Chg (One w1.heap.size) w6 (((w6.setCell ⟨w1.heap.size, 0, none⟩ (.bool (outP o p).e)).setCell ⟨w1.heap.size, 1, none⟩ (.slice (some ⟨f6, 0, none⟩) sz sz)).setCell ⟨w1.heap.size, 2, none⟩ (.slice (some ⟨l6, 0, none⟩) sz sz)) :=
          Chg.setCell (S := One w1.heap.size) (Chg.setCell (S := One w1.heap.size) (Chg.setCell (S := One w1.heap.size) (Chg.refl (One w1.heap.size) w6) (p := ⟨w1.heap.size, 0, none⟩) _ fun _ => rfl) (p := ⟨w1.heap.size, 1, none⟩) _ fun _ => rfl) (p := ⟨w1.heap.size, 2, none⟩) _ fun _ => rfl
        have hz2 := hG2.chg.size
        have bR2 := (hRb.chg cB id).chg hG2.chg nR
        have nf6 : f6 ∉ fb2 := fun e => by have := hG2.net.fb_lt f6 e; omega
        have nl6 : l6 ∉ fb2 := fun e => by have := hG2.net.fb_lt l6 e; omega
        refine ⟨⟨i + 1, vt2, vf2, fb2, f6, l6, by omega, by go_num, ?_, (bR2.chg c6 (hG2.net.not_fb bR2 (by decide))).chg cO (fun e => by have e' : w.heap.size + 1 = w1.heap.size := e; omega)⟩, by simp [intOf]; omega⟩
        rw [HSN.out]
        refine ⟨(((hI.grow.after cB (fun _ _ => id) (fun _ e => e.elim)).trans hG2).trans ⟨n6, c6.mono (fun k _ e => .inr (.inr (.inr e))), fun k hk => .inl hk⟩).after cO (fun k hk e => ?_) (fun k e => ?_), ⟨s6.chg cO (s6.1.ne_ bO6 (by decide)), t6.chg cO (t6.1.ne_ bO6 (by decide)), nf6, nl6⟩, hfl6, by omega, by omega, ?_⟩
        · have e' : k = w1.heap.size := e
          subst e'
          exact n6.not_net bO6 (by decide) (by decide) (by decide) (.inl (by decide)) hk
        · have e' : k = w1.heap.size := e
          omega
        · exact ((bO6.set_ 0 (.bool (outP o p).e)).set_ 1 (.slice (some ⟨f6, 0, none⟩) sz sz)).set_ 2 (.slice (some ⟨l6, 0, none⟩) sz sz)
    · obtain rfl : i = lst.length := by omega
      rw [List.take_length] at hI
      obtain ⟨o0, o1, o2, _⟩ := part_cells hI.blk
      obtain ⟨q1, q2, q3, q4, q5, q6⟩ := part_cells hRb
      go_wp2
      have hbz := ((hRb.set_ 0 (.bool (seqP (addsP lst) n ⟨true, 0, 0⟩).2.e)).set_ 1 (.slice (some ⟨f, 0, none⟩) sz sz)).set_ 2 (.slice (some ⟨l, 0, none⟩) sz sz)
      refine bodyPost_ret_part rfl rfl rfl hbz ?_
      exact add_close _ _ _ hI.grow hI.part hI.hf hI.hl hI.ne hRb (by omega)
end Go.Proofs.YticipgjbgcdccaaDoor
namespace Go.Proofs.YticipgjbgcdccaaDoor
open Go.RowKit

theorem exitTo_len (id : Nat) : ∀ (k k' : List Item), exitTo id k = some k' → k'.length < k.length
  | [], k', h => by simp [exitTo] at h
  | x :: k, k', h => by
    have key : exitTo id k = some k' → k'.length < (x :: k).length := fun h => by have := exitTo_len id k k' h; simp; omega
    cases x <;> simp only [exitTo] at h <;> first | exact key h | skip
    split at h
    · injection h with h; subst h; simp
    · exact key h
theorem loop_unroll {P : Program} {c : Code} {Q : Exit → Act → World → Prop} {a : Act} {w : World} (hg : ∀ l a w, ¬ Q (.goto l) a w) (hp : ∀ l a w, ¬ Q (.panic l) a w) (ho : ∀ a w, ¬ Q .outgrown a w)
    (h : c.wp P (Exit.then (fun a' w' => (Code.loop c).wp P Q a' w') Q) a w) : (Code.loop c).wp P Q a w := by
  intro b k cs
  obtain ⟨e, a₁, w₁, hq, harr⟩ := h b (.inLoop c :: k) cs
  cases e with
  | normal =>
    obtain ⟨e₂, a₂, w₂, hq₂, harr₂⟩ := hq b k cs
    refine ⟨e₂, a₂, w₂, hq₂, .of_steps (Steps.trans (.one step_loop) harr) ?_⟩
    have inv : ∀ t, Steps P (lone (b.at a₁ (.code (.loop c) :: k)) cs w₁) t → lone (b.at a₁ (.code (.loop c) :: k)) cs w₁ ≠ t → Steps P (lone (b.at a₁ (.inLoop c :: k)) cs w₁) t := by
      rintro t ⟨n, hn⟩ hne
      cases n with
      | zero => simp [runN] at hn; exact absurd hn hne
      | succ n =>
        simp only [runN, step_loop] at hn
        exact .head step_inLoop ⟨n, hn⟩
    have ne : ∀ (a' : Act) (k' : List Item) (w' : World), k'.length ≤ k.length → lone (b.at a₁ (.code (.loop c) :: k)) cs w₁ ≠ lone (b.at a' k') cs w' := by
      intro a' k' w' hl he
      have : (Code.loop c |> Item.code) :: k = k' := by
        simp [lone, Frame.at] at he
        exact he.2.2.1
      rw [← this] at hl
      simp at hl
      omega
    cases e₂ with
    | normal => exact inv _ harr₂ (ne _ _ _ (Nat.le_refl _))
    | exit id => exact fun k' hk => inv _ (harr₂ k' hk) (ne _ _ _ (Nat.le_of_lt (exitTo_len id k k' hk)))
    | ret =>
      obtain ⟨todo, hs⟩ := harr₂
      exact ⟨todo, inv _ hs (fun he => by simp [lone, Frame.at] at he)⟩
    | goto l => exact absurd hq₂ (hg _ _ _)
    | panic l => exact absurd hq₂ (hp _ _ _)
    | outgrown => exact absurd hq₂ (ho _ _)
  | exit id => exact ⟨_, a₁, w₁, hq, .of_steps (.one step_loop) (.pass (x := .inLoop c) rfl (fun _ _ => .inl (by simp)) harr)⟩
  | goto l => exact absurd hq (hg _ _ _)
  | ret => exact ⟨_, a₁, w₁, hq, .of_steps (.one step_loop) (.pass (x := .inLoop c) rfl (fun _ _ => .inl (by simp)) harr)⟩
  | panic l => exact absurd hq (hp _ _ _)
  | outgrown => exact absurd hq (ho _ _)
end Go.Proofs.YticipgjbgcdccaaDoor
