/- The reference's net: add, net: contracts.
   The reference: checked, Longest, Match, Live: contracts. -/
import Derived.Test.YticipgjbgcdccaaDoorZ16
import Derived.Test.YticipgjbgcdccaaDoorZ18
import Derived.Test.YticipgjbgcdccaaDoorZ9
import Derived.Test.YticipgjbgcdccaaDoorZ8
set_option linter.unusedSimpArgs false
set_option linter.unusedVariables false
namespace Go.Proofs.YticipgjbgcdccaaDoor
open Go.RowKit

/-- what net makes -/
def NetC (x : Ex) : Prop := ∀ (A : Option Addr) (n c : Nat) (S : Nat → Prop) (w : World) (B : Option Addr) (m cb : Nat) (b : List Nat), Sl w S A n c x.l → Byt w B m cb b → b.length ≤ 262144 →
  Calls Tryd.prog 61 #[.agg #[.int .i64 x.k, .int .i64 x.f, .int .i64 x.t, .int .i64 x.a, .int .i64 x.b, .slice A n c], .slice B m cb] w
    fun e w' => ∃ (F : NF) (s : NS), e = .returned (.pointer (some ⟨F.m, 0, none⟩)) ∧ NetOk w' F s ∧ NFok F ∧ F.w0 = w ∧ F.b = b ∧ TreeAt F.es F.ks x 0 ∧ LvOk F s 0 (nodesP x)

set_option maxHeartbeats 4000000 in
set_option maxRecDepth 100000 in
theorem add_of (F : BF) (x : Ex) (hA : ∀ y ∈ x.l, AddN F y) : AddN F x := by
  intro A n c S w s h hrl hl hS hmax
  have hn := hl.1
  subst hn
  have hnp := nodesP_pos x
  have hgm := h.m.lt
  obtain ⟨AE, cE, hvE⟩ := ownsRow_form h.E
  have hc0 : Chg No w (w.alloc (.cells #[.int .i64 x.k, .int .i64 x.f, .int .i64 x.t, .int .i64 x.a, .int .i64 x.b, .slice A x.l.length c] 25)) := (Chg.refl _ _).alloc _
  have hb0 := Blk.new w 25 #[.int .i64 x.k, .int .i64 x.f, .int .i64 x.t, .int .i64 x.a, .int .i64 x.b, .slice A x.l.length c]
  have h1 := h.keepNo hc0
  obtain ⟨w1, hw1⟩ : ∃ w1, w.alloc (.cells #[.int .i64 x.k, .int .i64 x.f, .int .i64 x.t, .int .i64 x.a, .int .i64 x.b, .slice A x.l.length c] 25) = w1 := ⟨_, rfl⟩
  have HW1 := Lib.hid hw1
  rw [hw1] at hc0 hb0 h1
  have hG0 : s.T w.heap.size = 0 := h.new _ (Nat.le_refl _)
  have y1 := (h.m.cell 1).trans rfl
  simp only [List.getElem?_toArray, List.getElem?_cons_zero, List.getElem?_cons_succ, hvE] at y1
  have HI := Lib.hid (⟨h, hl, hrl, hS⟩ : _ ∧ _ ∧ _ ∧ _)
  have H1 := Lib.hid (⟨h1, hc0, hb0⟩ : _ ∧ _ ∧ _)
  clear h hl hrl hS hc0 hb0 h1 hw1
  go_enter Tryd.func96, Tryd.ntmps96
  go_upto_region 2 with fail
  rw [HW1.out]
  obtain ⟨G, hG⟩ : ∃ G, w.heap.size = G := ⟨_, rfl⟩
  simp only [hG] at H1 hG0 ⊢
  clear y1
  go_cut [] from 14 to 24 (fun wx => ∃ s2, BOk wx F s2 ∧ Bst w1 s wx s2 ∧ s2.es = s.es ++ [x] ∧ s2.ks = s.ks ∧ s2.nX = s.nX ∧ s2.nD = s.nD ∧ s2.nV = s.nV ∧ Blk wx G 25 #[.int .i64 x.k, .int .i64 x.f, .int .i64 x.t, .int .i64 x.a, .int .i64 x.b, .slice A x.l.length c])
  case first =>
    have hOE := H1.out.1.E
    rw [hvE] at hOE
    have hbm := H1.out.1.m
    rw [hvE] at hbm
    have y1 := (hbm.cell 1).trans rfl
    have z1 := ((hbm.alloc (.cells #[.int .i64 0, .int .i64 0, .int .i64 0, .int .i64 0, .int .i64 0, .slice none 0 0] 25)).cell 1).trans rfl
    have hbx := H1.out.2.2
    obtain ⟨x0, x1, x2, x3, x4, x5⟩ := ex_cells hbx
    obtain ⟨u0, u1, u2, u3, u4, u5⟩ := ex_cells (hbx.alloc (.cells #[.int .i64 0, .int .i64 0, .int .i64 0, .int .i64 0, .int .i64 0, .slice none 0 0] 25))
    simp only [List.getElem?_toArray, List.getElem?_cons_zero, List.getElem?_cons_succ] at y1 z1
    obtain ⟨N, hN⟩ : ∃ N, s.es.length = N := ⟨_, rfl⟩
    have hN4 : N ≤ 4096 := by omega
    have hcl : s.cE.length = 6 * N := by rw [← hN]; exact H1.out.1.eE.1
    have htE : ∀ k, (Value.slice AE N cE).ownBlock = some k → s.T k = 2 := fun k hk => H1.out.1.tE k (by rw [hvE, hN]; exact hk)
    have htm := H1.out.1.tm
    have htG := hG0
    have hGl := hbx.lt
    have hmf := hbm.frozen 1
    simp only [hN] at hOE y1 z1 hbm ⊢
    have hz0 : (0 : Int) ≤ (N : Int) := by omega
    have hz1 : (N : Int) < ((N + 1 : Nat) : Int) := by omega
    have hz2 : (N : Int) < (N : Int) + 1 := by omega
    have HH := Lib.hid (⟨hOE, hbm, hbx, htE, htm, htG, hcl⟩ : _ ∧ _ ∧ _ ∧ _ ∧ _ ∧ _ ∧ _)
    clear htE htm htG hcl hbx hbm
    go_region_law (refine step_append_E (by rfl) _ _ (by rfl) (.slice AE N cE) N s.cE (by rfl) (ownsRow_chgS hOE (((Chg.refl No w1).alloc _).drew) (fun _ _ e => e)) _ 1 (by rfl) ((Blk.new w1 _ _).drew) (by omega) ?_; intro v5 w5 hO5 hgr hat; obtain ⟨g5, c5, hv5⟩ := ownsRow_some hO5; subst hv5; have r0 := hO5.frozenAt (N * 6); have r1 := hO5.frozenAt (N * 6 + 1); have r2 := hO5.frozenAt (N * 6 + 2); have r3 := hO5.frozenAt (N * 6 + 3); have r4 := hO5.frozenAt (N * 6 + 4); have r5 := hO5.frozenAt (N * 6 + 5); obtain ⟨⟨q0, q1, q2, q3, q4, q5⟩, hgn, p1, p2, hch⟩ := add_E_facts HH.out.2.1 HH.out.2.2.2.1 HH.out.2.2.2.2.1 HH.out.2.2.2.2.2.2 hO5 hgr hat; have hgn2 := hgn.symm)
    all_goals
      subst hN
      go_wp2
      go_meet
      refine add_E_end rfl hvE H1.out.1 HH.out.2.2.1 HH.out.2.2.2.2.2.1 hO5 (z := (w1.alloc (.cells #[.int .i64 0, .int .i64 0, .int .i64 0, .int .i64 0, .int .i64 0, .slice none 0 0] 25)).drew.heap.size) (by show _ ≤ (w1.alloc _).heap.size; simp) hat hch ?_
      first
        | with_reducible rfl
        | (rw [setCell_comm _ g5 F.gm (s.es.length * 6 + 5) 1 _ _ hgn2, setCell_comm _ g5 F.gm (s.es.length * 6 + 4) 1 _ _ hgn2, setCell_comm _ g5 F.gm (s.es.length * 6 + 3) 1 _ _ hgn2, setCell_comm _ g5 F.gm (s.es.length * 6 + 2) 1 _ _ hgn2, setCell_comm _ g5 F.gm (s.es.length * 6 + 1) 1 _ _ hgn2, setCell_comm _ g5 F.gm (s.es.length * 6) 1 _ _ hgn2])
  case rest =>
    obtain ⟨s2, hk1, hk2, hk3, hk4, hk5, hk6, hk7, hk8⟩ := hcut
    have hM : Mid F w1 s x G A c [] 0 0 0 wc s2 := ⟨hk1, hk2, hk3, by rw [hk4]; simp, hk5, hk6, hk7, hk8, H1.out.2.2.lt, hG0⟩
    clear hk1 hk2 hk3 hk4 hk5 hk6 hk7 hk8
    obtain ⟨hrl1, hrl2, hrl3, hrl4, hrl5⟩ := HI.out.2.2.1
    obtain ⟨AK, cK, hvK⟩ := ownsRow_form hM.ok.K
    have hOK := hM.ok.K
    rw [hvK] at hOK
    have y1 := (hM.ok.m.cell 2).trans rfl
    have hln : s2.ks.length ≤ 1000000 := by rw [hM.ks]; rw [List.length_append]; simp; omega
    simp only [List.getElem?_toArray, List.getElem?_cons_zero, List.getElem?_cons_succ, hvK] at y1
    have hGl := hM.ok.m.lt
    go_upto_region 3 with fail
    go_cut [] from 25 to 33 (fun wx => ∃ s3, Mid F w1 s x G A c [[]] 0 0 0 wx s3)
    case first =>
      as_aux_lemma =>
      go_wp2_with (at_builtin; refine wpList_append_nil 118 88 Tryd.underlying118 info_88 rfl _ _ rfl (.slice AK (s2.ks.length) cK) (s2.ks.length) s2.cK rfl (ownsRow_chgS hOK ((Chg.refl No _).alloc _) (fun _ _ e => e)) _ 1 rfl (Blk.new _ _ _) hln ?_; intro v' w5 hO5 hgr hat; obtain ⟨g5, c5, hv5⟩ := ownsRow_some hO5; subst hv5; obtain ⟨_, hm5, _⟩ := nil_facts hM.ok (fun k hk => by rw [hM.ok.tK k (by rw [hvK]; exact hk)]; omega) hgr hat; have z1 := (hm5.cell 2).trans rfl; have z2 := hm5.frozen 2; simp only [List.getElem?_toArray, List.getElem?_cons_zero, List.getElem?_cons_succ] at z1)
      go_meet
      exact hM.addK hvK hO5 hgr hat
    clear hM y1 hOK hvK AK cK hGl hln
    obtain ⟨s2, hM⟩ := hcut
    obtain ⟨AK, cK, hvK⟩ := ownsRow_form hM.ok.X
    have hOK := hM.ok.X
    rw [hvK] at hOK
    have y1 := (hM.ok.m.cell 3).trans rfl
    have hln : s2.nX ≤ 1000000 := by rw [hM.nX]; omega
    simp only [List.getElem?_toArray, List.getElem?_cons_zero, List.getElem?_cons_succ, hvK] at y1
    have hGl := hM.ok.m.lt
    go_upto_region 4 with fail
    go_cut [] from 34 to 42 (fun wx => ∃ s3, Mid F w1 s x G A c [[]] 1 0 0 wx s3)
    case first =>
      as_aux_lemma =>
      go_wp2_with (at_builtin; refine wpList_append_nil 119 118 Tryd.underlying119 info_118 rfl _ _ rfl (.slice AK (s2.nX) cK) (s2.nX) (nils s2.nX) rfl (ownsRow_chgS hOK ((Chg.refl No _).alloc _) (fun _ _ e => e)) _ 1 rfl (Blk.new _ _ _) hln ?_; intro v' w5 hO5 hgr hat; obtain ⟨g5, c5, hv5⟩ := ownsRow_some hO5; subst hv5; obtain ⟨_, hm5, _⟩ := nil_facts hM.ok (fun k hk => by rw [hM.ok.tX k (by rw [hvK]; exact hk)]; omega) hgr hat; have z1 := (hm5.cell 3).trans rfl; have z2 := hm5.frozen 3; simp only [List.getElem?_toArray, List.getElem?_cons_zero, List.getElem?_cons_succ] at z1)
      go_meet
      exact hM.addX hvK hO5 hgr hat
    clear hM y1 hOK hvK AK cK hGl hln
    obtain ⟨s2, hM⟩ := hcut
    obtain ⟨AK, cK, hvK⟩ := ownsRow_form hM.ok.D
    have hOK := hM.ok.D
    rw [hvK] at hOK
    have y1 := (hM.ok.m.cell 4).trans rfl
    have hln : s2.nD ≤ 1000000 := by rw [hM.nD]; omega
    simp only [List.getElem?_toArray, List.getElem?_cons_zero, List.getElem?_cons_succ, hvK] at y1
    have hGl := hM.ok.m.lt
    go_upto_region 5 with fail
    go_cut [] from 43 to 51 (fun wx => ∃ s3, Mid F w1 s x G A c [[]] 1 1 0 wx s3)
    case first =>
      as_aux_lemma =>
      go_wp2_with (at_builtin; refine wpList_append_nil 120 123 Tryd.underlying120 info_123 rfl _ _ rfl (.slice AK (s2.nD) cK) (s2.nD) (nils s2.nD) rfl (ownsRow_chgS hOK ((Chg.refl No _).alloc _) (fun _ _ e => e)) _ 1 rfl (Blk.new _ _ _) hln ?_; intro v' w5 hO5 hgr hat; obtain ⟨g5, c5, hv5⟩ := ownsRow_some hO5; subst hv5; obtain ⟨_, hm5, _⟩ := nil_facts hM.ok (fun k hk => by rw [hM.ok.tD k (by rw [hvK]; exact hk)]; omega) hgr hat; have z1 := (hm5.cell 4).trans rfl; have z2 := hm5.frozen 4; simp only [List.getElem?_toArray, List.getElem?_cons_zero, List.getElem?_cons_succ] at z1)
      go_meet
      exact hM.addD hvK hO5 hgr hat
    clear hM y1 hOK hvK AK cK hGl hln
    obtain ⟨s2, hM⟩ := hcut
    obtain ⟨AK, cK, hvK⟩ := ownsRow_form hM.ok.V
    have hOK := hM.ok.V
    rw [hvK] at hOK
    have y1 := (hM.ok.m.cell 5).trans rfl
    have hln : s2.nV ≤ 1000000 := by rw [hM.nV]; omega
    simp only [List.getElem?_toArray, List.getElem?_cons_zero, List.getElem?_cons_succ, hvK] at y1
    have hGl := hM.ok.m.lt
    go_upto_region 6 with fail
    go_cut [] from 52 to 60 (fun wx => ∃ s3, Mid F w1 s x G A c [[]] 1 1 1 wx s3)
    case first =>
      as_aux_lemma =>
      go_wp2_with (at_builtin; refine wpList_append_nil 118 88 Tryd.underlying118 info_88 rfl _ _ rfl (.slice AK (s2.nV) cK) (s2.nV) (nils s2.nV) rfl (ownsRow_chgS hOK ((Chg.refl No _).alloc _) (fun _ _ e => e)) _ 1 rfl (Blk.new _ _ _) hln ?_; intro v' w5 hO5 hgr hat; obtain ⟨g5, c5, hv5⟩ := ownsRow_some hO5; subst hv5; obtain ⟨_, hm5, _⟩ := nil_facts hM.ok (fun k hk => by rw [hM.ok.tV k (by rw [hvK]; exact hk)]; omega) hgr hat; have z1 := (hm5.cell 5).trans rfl; have z2 := hm5.frozen 5; simp only [List.getElem?_toArray, List.getElem?_cons_zero, List.getElem?_cons_succ] at z1)
      go_meet
      exact hM.addV hvK hO5 hgr hat
    clear hM y1 hOK hvK AK cK hGl hln
    obtain ⟨s2, hM⟩ := hcut
    have hL := AL.start hM HI.out.2.2.1
    have hSl := HI.out.2.1.keep (S' := fun k => s.T k = 0 ∧ k < w1.heap.size) (fun _ _ _ => rfl) (fun k hk hlt => ⟨HI.out.2.2.2 k hk hlt, by have := H1.out.2.1.size; omega⟩) (Nat.le_refl _)
    have hSl1 := hSl.chgNo H1.out.2.1
    have HSL := Lib.hid hSl1
    have hnx : nodesP x = 1 + nodesS x.l := by cases x; rfl
    have hll := nodesS_len x.l
    have HA := Lib.hid hA
    clear hM hSl hSl1 hA
    go_wp2_with fail
    go_loopw [6, 7, 8] (fun v6 v7 v8 wr => ∃ (j : Nat) (s3 : BS) (ids : List Nat) (m : List Ex) (mk : List (List Nat)) (AU : Option Addr) (cU : Nat), v7 = .int .i64 (j : Int) ∧ v6 = .slice AU j cU ∧ AL F w1 s x G A c wr s3 j v6 ids m mk) (fun _ v _ _ => x.l.length - (intOf v).toNat)
    case atStart => exact ⟨0, s2, [], [], [], none, 0, rfl, rfl, hL⟩
    case round =>
      obtain ⟨j, s3, ids, m, mk, AU, cU, rfl, rfl, hR⟩ := hrel
      have hRL : RL s3 s3.es.length := by rw [hR.rl.1]; exact hR.rl
      have hid := hR.idl
      have y5 := (hR.bG.cell 5).trans rfl
      have hrl' := HI.out.2.2.1
      simp only [List.getElem?_toArray, List.getElem?_cons_zero, List.getElem?_cons_succ] at y5
      by_cases hlt : j < x.l.length
      · as_aux_lemma =>
        obtain ⟨g, o, A', c', rfl, hS', k0, k1, k2, k3, k4, k5, hx⟩ := (HSL.out.chg hR.st.chg (fun k hk e => by have := hk.1; omega)).at_ j hlt
        have hns := nodesS_take_succ x.l j hlt
        have hnt := nodesS_take x.l (j + 1)
        have hy := HA.out x.l[j] (List.getElem_mem hlt) A' x.l[j].l.length c' _ wr s3 hR.ok hRL hx (fun k hk _ => (hR.st.T k hk.2).trans hk.1) (by rw [hR.rl.1]; omega)
        have HR := Lib.hid hR
        clear hR hRL hid hrl'
        have hil : ids.length ≤ 1000000 := by have := HR.out.idl; omega
        go_wp2_with (first | (go_at_call 96; refine hy.mono ?_; rintro e w' hp; obtain ⟨rfl, how, hsz, hbG, hnx⟩ := HR.out.next hlt hp) | (at_builtin; refine wpList_append_int rfl _ _ rfl w1.heap.size _ _ rfl (how.chgNo ((Chg.refl No _).alloc _)) _ 1 s3.es.length rfl (Blk.new _ _ _) hil (by first | omega | (simp; omega)) ?_; intro v' w9 hO hgr hat))
        obtain ⟨A5, c5, e5, _, _⟩ := hO.ints.form
        have hid := HR.out.idl
        obtain ⟨s5, m5, mk5, hR5⟩ := hnx _ v' w9 hO hgr hat
        refine ⟨⟨j + 1, s5, _, m5, mk5, A5, c5, by go_num, by rw [e5, List.length_append, hid]; rfl, hR5⟩, by simp [intOf]; omega⟩
      · as_aux_lemma =>
        have hj := hR.hj
        obtain rfl : j = x.l.length := by omega
        obtain ⟨gK, nK, cK, hv, hln, ⟨z, hz⟩, hfz, hne⟩ := hR.kids hrl'
        have y2 := (hR.ok.m.cell 2).trans rfl
        simp only [List.getElem?_toArray, List.getElem?_cons_zero, List.getElem?_cons_succ, hv] at y2
        have hz1 : (s.es.length : Int) < (nK : Int) := by omega
        have hz2 : (0 : Int) ≤ (s.es.length : Int) := by omega
        have HR := Lib.hid (AL.fin H1.out.2.1 hR hrl' hv)
        clear hR hRL hid hrl' hv
        go_wp2
        go_ret
        exact HR.out
theorem add_all (F : BF) : ∀ (N : Nat) (x : Ex), SizeOf.sizeOf x < N → AddN F x
  | 0, _, h => absurd h (Nat.not_lt_zero _)
  | N + 1, x, h => add_of F x fun y hy => add_all F N y (by
      cases x with | mk k f t a b l => have hy' : y ∈ l := hy; have := Ex.lt_of_mem hy' k f t a b; omega)
/-- the net as it is made is a net -/
theorem net_of {w' : World} {F : BF} {s : BS} {x : Ex} (h : BOk w' F s) (hrl : RL s (nodesP x)) (ht : TreeAt s.es s.ks x 0) (hB : Byt F.w0 F.B F.b.length F.cb F.b) (hn : F.b.length ≤ 262144) (h4 : nodesP x ≤ 4096) :
    ∃ (N : NF) (t : NS), N.m = F.gm ∧ NetOk w' N t ∧ NFok N ∧ N.w0 = F.w0 ∧ N.b = F.b ∧ TreeAt N.es N.ks x 0 ∧ LvOk N t 0 (nodesP x) := by
  obtain ⟨r1, r2, r3, r4, r5⟩ := hrl
  obtain ⟨n, hnn⟩ : ∃ n, nodesP x = n + 1 := ⟨nodesP x - 1, by have := nodesP_pos x; omega⟩
  have hE := h.E
  have hK := h.K
  have hX := h.X
  have hD := h.D
  have hV := h.V
  have hm := h.m
  have tE := h.tE
  have tK := h.tK
  have tX := h.tX
  have tD := h.tD
  have tV := h.tV
  rw [r1, hnn] at hE
  rw [r2, hnn] at hK
  rw [r3, hnn] at hX
  rw [r4, hnn] at hD
  rw [r5, hnn] at hV
  obtain ⟨gE, cE, eE⟩ := ownsRow_some hE
  obtain ⟨gK, cK, eK⟩ := ownsRow_some hK
  obtain ⟨gX, cX, eX⟩ := ownsRow_some hX
  obtain ⟨gD, cD, eD⟩ := ownsRow_some hD
  obtain ⟨gV, cV, eV⟩ := ownsRow_some hV
  rw [eE, eK, eX, eD, eV] at hm
  rw [eE] at hE tE
  rw [eK] at hK tK
  rw [eX] at hX tX
  rw [eD] at hD tD
  rw [eV] at hV tV
  have uE := tE gE rfl
  have uK := tK gK rfl
  have uX := tX gX rfl
  have uD := tD gD rfl
  have uV := tV gV rfl
  have um := h.tm
  have zE := (ownsRow_lt hE gE rfl).2
  have zK := (ownsRow_lt hK gK rfl).2
  have zX := (ownsRow_lt hX gX rfl).2
  have zD := (ownsRow_lt hD gD rfl).2
  have zV := (ownsRow_lt hV gV rfl).2
  have T0 : ∀ k, s.T k ≠ 4 → s.T k ≠ 5 → s.T k ≠ 6 → (if k = gX then 2 else if k = gD then 3 else if k = gV then 4 else 0 : Nat) = 0 := fun k h1 h2 h3 => by
    rw [if_neg (fun e : k = gX => h1 (by rw [e]; exact uX)), if_neg (fun e : k = gD => h2 (by rw [e]; exact uD)), if_neg (fun e : k = gV => h3 (by rw [e]; exact uV))]
  have nX : gX ≠ gD := fun e => by rw [e] at uX; omega
  have nV : gX ≠ gV := fun e => by rw [e] at uX; omega
  have nW : gD ≠ gV := fun e => by rw [e] at uD; omega
  have arr : ∀ {e : TypeId} {g c : Nat}, w'.ownsRow 0 e 1 (.slice (some ⟨g, 0, none⟩) (n + 1) c) (n + 1) (nils (n + 1)) → g < w'.heap.size → Arr w' g s.es.length (fun _ => rowOf F.b.length none) := fun ho hz =>
    ⟨hz, fun i hi => ⟨by
      rw [ho.cellAt i (by omega)]
      unfold nils
      rw [List.getElem?_replicate, if_pos (by omega)]; rfl, ho.frozenAt i⟩⟩
  refine ⟨⟨F.w0, F.gm, gE, gK, gX, gD, gV, cE, cK, cX, cD, cV, F.B, F.cb, F.b, s.es, s.ks⟩, ⟨fun k => if k = gX then 2 else if k = gD then 3 else if k = gV then 4 else 0, fun _ => none, fun _ => none, fun _ => none, fun _ _ => false, fun _ _ => 0⟩, rfl, ?_, ⟨hB, hn, by show s.es.length ≤ 4096; omega⟩, rfl, rfl, ht, fun _ _ _ _ _ _ _ => .inl rfl⟩
  have hl1 : s.es.length = n + 1 := by omega
  constructor
  · exact h.c0
  · intro k hk
    refine h.low k fun e => hk (T0 k (by omega) (by omega) (by omega))
  · intro k hk
    have := h.new k hk
    exact T0 k (by omega) (by omega) (by omega)
  · show Blk w' F.gm _ _
    simp only [hl1]
    exact hm
  · exact T0 F.gm (by omega) (by omega) (by omega)
  · exact zE
  · exact zK
  · exact T0 gE (by omega) (by omega) (by omega)
  · exact T0 gK (by omega) (by omega) (by omega)
  · exact if_pos rfl
  · exact (if_neg nX.symm).trans (if_pos rfl)
  · exact (if_neg nV.symm).trans ((if_neg nW.symm).trans (if_pos rfl))
  · intro i y hy
    obtain ⟨A, c, k0, k1, k2, k3, k4, k5⟩ := h.eE.2 i y hy
    have hi : i < s.es.length := (List.getElem?_eq_some_iff.1 hy).1
    have cl : ∀ j, j < 6 → w'.cell? ⟨gE, i * 6 + j, none⟩ = s.cE[i * 6 + j]? := fun j hj => hE.cellAt (i * 6 + j) (by omega)
    exact ⟨A, c, (cl 0 (by omega)).trans k0, (cl 1 (by omega)).trans k1, (cl 2 (by omega)).trans k2, (cl 3 (by omega)).trans k3, (cl 4 (by omega)).trans k4, (cl 5 (by omega)).trans k5⟩
  · intro i l hl
    obtain ⟨u, k0, k1⟩ := h.eK.2 i l hl
    have hi : i < s.ks.length := (List.getElem?_eq_some_iff.1 hl).1
    exact ⟨u, (hK.cellAt i (by omega)).trans k0, k1.imp fun g hg => T0 g (by omega) (by omega) (by omega)⟩
  · exact arr hX zX
  · exact arr hD zD
  · exact arr hV zV
  · intro i g hg; cases hg
  · intro i y g _ hg; cases hg
  · intro i g hg; cases hg
  · intro i; exact Iff.rfl
/-- a net with nothing in it -/
theorem BOk.empty {w w2 : World} {gm : Nat} {B : Option Addr} {cb : Nat} {b : List Nat} (hc : Chg No w w2) (hw : w.heap.size ≤ gm) (hb : Blk w2 gm 122 #[.slice B b.length cb, .slice none 0 0, .slice none 0 0, .slice none 0 0, .slice none 0 0, .slice none 0 0]) :
    BOk w2 ⟨w, gm, B, cb, b⟩ ⟨fun k => if k = gm then 1 else 0, .slice none 0 0, .slice none 0 0, .slice none 0 0, .slice none 0 0, .slice none 0 0, [], [], [], [], 0, 0, 0⟩ := by
  have hlt := hb.lt
  have nl : ∀ {e : TypeId} {size : Nat}, w2.ownsRow 0 e size (.slice none 0 0) 0 [] := ⟨by simp, .inl ⟨rfl, rfl⟩⟩
  have no : ∀ {P : Nat → Prop}, ∀ k, (Value.slice none 0 0).ownBlock = some k → P k := fun k hk => by simp [Value.ownBlock] at hk
  exact ⟨hc, fun k hk => by
    by_cases e : k = gm
    · show w.heap.size ≤ k; omega
    · exact absurd (if_neg e) hk, fun k hk => if_neg (by omega), hb, if_pos rfl, nl, no, ⟨rfl, by simp⟩, nl, no, ⟨rfl, by simp⟩, nl, no, nl, no, nl, no⟩

set_option maxHeartbeats 1000000 in
set_option maxRecDepth 100000 in
theorem net_any (x : Ex) (h4 : nodesP x ≤ 4096) : NetC x := by
  intro A n c S w B m cb b hl hB hn
  obtain rfl := hl.1
  obtain rfl := hB.1
  have hb0 := Blk.new w 25 #[.int .i64 x.k, .int .i64 x.f, .int .i64 x.t, .int .i64 x.a, .int .i64 x.b, .slice A x.l.length c]
  have hc1 : Chg No w ((w.alloc (.cells #[.int .i64 x.k, .int .i64 x.f, .int .i64 x.t, .int .i64 x.a, .int .i64 x.b, .slice A x.l.length c] 25)).alloc (.cells #[.slice B b.length cb, .slice none 0 0, .slice none 0 0, .slice none 0 0, .slice none 0 0, .slice none 0 0] 122)) := ((Chg.refl No w).alloc _).alloc _
  have hbm := Blk.new (w.alloc (.cells #[.int .i64 x.k, .int .i64 x.f, .int .i64 x.t, .int .i64 x.a, .int .i64 x.b, .slice A x.l.length c] 25)) 122 #[.slice B b.length cb, .slice none 0 0, .slice none 0 0, .slice none 0 0, .slice none 0 0, .slice none 0 0]
  have hE := BOk.empty hc1 (by simp) hbm
  obtain ⟨x0, x1, x2, x3, x4, x5⟩ := ex_cells (hb0.alloc (.cells #[.slice B b.length cb, .slice none 0 0, .slice none 0 0, .slice none 0 0, .slice none 0 0, .slice none 0 0] 122))
  have hA := add_all ⟨w, w.heap.size + 1, B, cb, b⟩ (SizeOf.sizeOf x + 1) x (by omega) A x.l.length c (fun k => k < w.heap.size) _ _ (by simpa using hE) ⟨rfl, rfl, rfl, rfl, rfl⟩ (hl.below.chgNo hc1) (fun k (hk : k < w.heap.size) _ => if_neg (by show ¬ k = w.heap.size + 1; omega)) (by simpa using h4)
  have HB := Lib.hid hB
  clear hE hbm hB hl
  go_enter Tryd.func61, Tryd.ntmps61
  go_wp2_with (go_at_call 96; refine hA.mono ?_; rintro e w' ⟨s', mm, mk, rfl, k1, k2, k3, k4, k5, k6, k7⟩)
  go_ret
  obtain ⟨N, t, e1, e2, e3, e4, e5, e6, e7⟩ := net_of k1 (by simpa using k6) k7 HB.out hn h4
  exact ⟨N, t, by rw [e1] <;> rfl, e2, e3, e4, e5, e6, e7⟩
end Go.Proofs.YticipgjbgcdccaaDoor
namespace Go.Proofs.YticipgjbgcdccaaDoor
open Go.RowKit

theorem At_zero {L : List Nat → Prop} {b : List Nat} {j : Nat} : At L b 0 j ↔ j ≤ b.length ∧ L (b.take j) := by
  unfold At; simp
theorem rise_last : ∀ (l : List Nat) (n : Nat), (l ++ [n]).Pairwise (· < ·) → ∀ j ∈ l ++ [n], j ≤ n := by
  intro l n h j hj
  rw [List.pairwise_append] at h
  rcases List.mem_append.1 hj with h1 | h1
  · have := h.2.2 j h1 n (by simp)
    omega
  · simp at h1; omega
/-- the longest front by the list of the places -/
theorem last_long {L : List Nat → Prop} {b l : List Nat} {n : Int} (hP : Pls (At L b 0) l) (h : LongAt L b b.length n) : (l = [] ∧ n = -1) ∨ ∃ (k : Nat) (hk : l.length - 1 < l.length), l[l.length - 1] = k ∧ n = k := by
  rcases List.eq_nil_or_concat l with rfl | ⟨m, k, rfl⟩
  · left
    refine ⟨rfl, ?_⟩
    rcases h with ⟨h, _⟩ | ⟨k, h1, _, h3, _⟩
    · exact h
    · have := (hP.2 k).2 (At_zero.2 ⟨h1, h3⟩)
      simp at this
  · right
    rw [List.concat_eq_append] at hP ⊢
    refine ⟨k, by simp, by simp, ?_⟩
    have hk := At_zero.1 ((hP.2 k).1 (by simp))
    rcases h with ⟨_, h⟩ | ⟨q, h1, rfl, h3, h4⟩
    · exact absurd hk.2 (h k hk.1)
    · have h5 := rise_last m k hP.1 q ((hP.2 q).2 (At_zero.2 ⟨h1, h3⟩))
      rcases Nat.lt_or_ge q k with h6 | h6
      · exact absurd hk.2 (h4 k h6 hk.1)
      · congr 1; omega

set_option maxHeartbeats 1000000 in
set_option maxRecDepth 100000 in
theorem checked_any (x : Ex) (A : Option Addr) (n c : Nat) (S : Nat → Prop) (w : World) (hl : Sl w S A n c x.l) (hsm : lenOk x) (B : Option Addr) (m cb : Nat) :
    Calls Tryd.prog 60 #[.agg #[.int .i64 x.k, .int .i64 x.f, .int .i64 x.t, .int .i64 x.a, .int .i64 x.b, .slice A n c], .slice B m cb] w
      fun e w' => e = .returned (.int .i64 (askedP x m)) ∧ Chg No w w' := by
  have hb := Blk.new w 25 #[.int .i64 x.k, .int .i64 x.f, .int .i64 x.t, .int .i64 x.a, .int .i64 x.b, .slice A n c]
  have hc0 : Chg No w (w.alloc (.cells #[.int .i64 x.k, .int .i64 x.f, .int .i64 x.t, .int .i64 x.a, .int .i64 x.b, .slice A n c] 25)) := (Chg.refl _ _).alloc _
  have hck := rCheck_any x A n c S _ (hl.chgNo hc0) hsm
  have hF : askedP x m = if checkP x ≠ 0 then checkP x else if 262144 < m then 2 else 0 := rfl
  obtain ⟨u, hu⟩ : ∃ u, checkP x = u := ⟨_, rfl⟩
  rw [hu] at hck hF
  have HF := Lib.hid hF
  clear hu hF
  go_enter Tryd.func60, Tryd.ntmps60
  go_wp2_with fail
  refine hck.mono ?_
  rintro e w1 ⟨rfl, hc1⟩
  by_cases q0 : u = 0
  · subst q0
    have e0 : ((0 : Int) == 0) = true := rfl
    by_cases q1 : (m : Int) > 262144
    · go_wp2
      go_ret
      refine ⟨?_, hc0.trans hc1⟩
      rw [HF.out, if_neg (by simp), if_pos (by omega)] <;> rfl
    · go_wp2
      go_ret
      refine ⟨?_, hc0.trans hc1⟩
      rw [HF.out, if_neg (by simp), if_neg (by omega)] <;> rfl
  · have e0 : (u == 0) = false := by simpa using q0
    go_wp2
    go_ret
    refine ⟨?_, hc0.trans hc1⟩
    rw [HF.out, if_pos q0] <;> rfl

/-- what the three begin with: the boxed pattern and the check -/
theorem plain_zero {x : Ex} {m : Nat} (h : askedP x m = 0) : rightP x = true ∧ positionsP x ≤ 4096 ∧ m ≤ 262144 ∧ nodesP x ≤ 4096 := by
  obtain ⟨h1, h2⟩ := askedP_zero h
  obtain ⟨hR, hn, hp⟩ := checkP_nodes x h1
  exact ⟨hR, hp, h2, hn⟩
/-- the answer of ends, at a net that is new -/
theorem ends_zero (x : Ex) (hR : rightP x = true) {F : NF} {s : NS} {w : World} (hN : NetOk w F s) (hF : NFok F) (ht : TreeAt F.es F.ks x 0) : Calls Tryd.prog 62 #[.pointer (some ⟨F.m, 0, none⟩), .int .i64 0, .int .i64 0] w
    fun e w' => ∃ u l, e = .returned u ∧ Chg No F.w0 w' ∧ IntsV w' (fun _ => True) u l ∧ Pls (At (Lang x) F.b 0) l := by
  have h := (net_all F hF _ x (Nat.lt_succ_self _) hR).1 0 0 w s hN ht (Nat.zero_le _)
  exact h.mono fun e w' ⟨u, l, s', h1, h2, _, _, _, h6, h7⟩ => ⟨u, l, h1, h2.c0, h6.imp fun _ _ => trivial, h7⟩
theorem live_zero (x : Ex) (hR : rightP x = true) {F : NF} {s : NS} {w : World} (hN : NetOk w F s) (hF : NFok F) (ht : TreeAt F.es F.ks x 0) (hl : LvOk F s 0 (nodesP x)) : Calls Tryd.prog 63 #[.pointer (some ⟨F.m, 0, none⟩), .int .i64 0, .int .i64 0] w
    fun e w' => ∃ z : Bool, e = .returned (.bool z) ∧ Chg No F.w0 w' ∧ (z = true ↔ Lv (Lang x) F.b 0) := by
  have h := (net_all F hF _ x (Nat.lt_succ_self _) hR).2 0 0 w s hN ht (Nat.zero_le _) (by rw [Nat.zero_add]; exact hl)
  exact h.mono fun e w' ⟨z, s', h1, h2, h3, _, _, _⟩ => ⟨z, h1, h3.c0, h2⟩

set_option maxHeartbeats 1000000 in
set_option maxRecDepth 100000 in
theorem rLongest_any (x : Ex) (A : Option Addr) (n c : Nat) (S : Nat → Prop) (w : World) (hl : Sl w S A n c x.l) (hsm : lenOk x) (B : Option Addr) (m cb : Nat) (bs : List Nat) (hB : Byt w B m cb bs) :
    Calls Tryd.prog 28 #[.agg #[.int .i64 x.k, .int .i64 x.f, .int .i64 x.t, .int .i64 x.a, .int .i64 x.b, .slice A n c], .slice B m cb] w
      fun e w' => e = .returned (.tuple #[.int .i64 (longestP x bs).1, .int .i64 (longestP x bs).2]) ∧ Chg No w w' := by
  have hb := Blk.new w 25 #[.int .i64 x.k, .int .i64 x.f, .int .i64 x.t, .int .i64 x.a, .int .i64 x.b, .slice A n c]
  have hc0 : Chg No w (w.alloc (.cells #[.int .i64 x.k, .int .i64 x.f, .int .i64 x.t, .int .i64 x.a, .int .i64 x.b, .slice A n c] 25)) := (Chg.refl _ _).alloc _
  have hm := hB.1
  subst hm
  have hlc := hB.2.1
  have hcb := hB.2.2.1
  have has := checked_any x A n c S _ (hl.chgNo hc0) hsm B bs.length cb
  have HPL := Lib.hid (fun h => @plain_zero x bs.length h)
  have hF : longestP x bs = if askedP x bs.length ≠ 0 then (0, askedP x bs.length) else ((ranP x bs).1, 0) := rfl
  obtain ⟨e0, he⟩ : ∃ e, askedP x bs.length = e := ⟨_, rfl⟩
  rw [he] at has hF HPL
  have HF := Lib.hid hF
  have HB := Lib.hid hB
  clear he hF hB
  go_enter Tryd.func28, Tryd.ntmps28
  go_wp2_with fail
  refine has.mono ?_
  rintro e w1 ⟨rfl, hc1⟩
  have hb1 := hb.chg hc1 id
  have k1 := hc0.trans hc1
  by_cases q0 : e0 = 0
  rotate_left
  · have e1 : (e0 != 0) = true := by simpa using q0
    go_wp2
    go_ret2
    refine ⟨?_, k1⟩
    rw [HF.out, if_pos q0] <;> rfl
  · subst q0
    obtain ⟨hR, hp, hn, hn4⟩ := HPL.out rfl
    have hnet := net_any x hn4 A n c S w1 B bs.length cb bs (hl.chgNo k1) (HB.out.chgNo k1) hn
    have hrs := ran_spec x hR hp bs
    have HN := Lib.hid hnet
    have HR := Lib.hid hR
    have y0 := hb1.cell 0
    have y1 := hb1.cell 1
    have y2 := hb1.cell 2
    have y3 := hb1.cell 3
    have y4 := hb1.cell 4
    have y5 := hb1.cell 5
    simp only [List.getElem?_toArray, List.getElem?_cons_zero, List.getElem?_cons_succ] at y0 y1 y2 y3 y4 y5
    clear hnet
    go_wp2_with fail
    refine HN.out.mono ?_
    rintro e w2 ⟨F, s, rfl, hNK, hFk, hw0, hbF, ht, hlv⟩
    have HE := Lib.hid (ends_zero x HR.out hNK hFk ht)
    rw [hw0, hbF] at HE
    clear y0 y1 y2 y3 y4 y5 hNK hFk ht hlv
    go_wp2_with fail
    refine HE.out.mono ?_
    rintro e w3 ⟨u, l, rfl, hc3, hI, hPl⟩
    have k3 := k1.trans hc3
    have hll := last_long hPl hrs.1
    have hHI := hI
    obtain ⟨Au, cu, rfl, _, _⟩ := hI.form
    rcases hll with ⟨rfl, hn1⟩ | ⟨k, hk, hk1, hn1⟩
    · go_wp2
      go_ret2
      refine ⟨?_, k3⟩
      rw [HF.out, if_neg (by simp), hn1] <;> rfl
    · obtain ⟨g, o, c', e1, z⟩ := hHI.cell hk
      cases e1
      rw [hk1] at z
      have hl0 : (l.length : Int) > 0 := by omega
      have hz : ((l.length - 1 : Nat) : Int) = (l.length : Int) - 1 := by omega
      have hz0 : (0 : Int) ≤ (l.length : Int) - 1 := by omega
      have hz1 : (l.length : Int) - 1 < (l.length : Int) := by omega
      have HN1 := Lib.hid hn1
      clear hk hk1 hPl hI hHI hn1
      go_wp2
      go_ret2
      refine ⟨?_, k3⟩
      rw [HF.out, if_neg (by simp), HN1.out] <;> rfl

set_option maxHeartbeats 1000000 in
set_option maxRecDepth 100000 in
theorem rMatch_any (x : Ex) (A : Option Addr) (n c : Nat) (S : Nat → Prop) (w : World) (hl : Sl w S A n c x.l) (hsm : lenOk x) (B : Option Addr) (m cb : Nat) (bs : List Nat) (hB : Byt w B m cb bs) :
    Calls Tryd.prog 27 #[.agg #[.int .i64 x.k, .int .i64 x.f, .int .i64 x.t, .int .i64 x.a, .int .i64 x.b, .slice A n c], .slice B m cb] w
      fun e w' => e = .returned (.tuple #[.bool (matchP x bs).1, .int .i64 (matchP x bs).2]) ∧ Chg No w w' := by
  have hb := Blk.new w 25 #[.int .i64 x.k, .int .i64 x.f, .int .i64 x.t, .int .i64 x.a, .int .i64 x.b, .slice A n c]
  have hc0 : Chg No w (w.alloc (.cells #[.int .i64 x.k, .int .i64 x.f, .int .i64 x.t, .int .i64 x.a, .int .i64 x.b, .slice A n c] 25)) := (Chg.refl _ _).alloc _
  have hm := hB.1
  subst hm
  have hlc := hB.2.1
  have hcb := hB.2.2.1
  have has := checked_any x A n c S _ (hl.chgNo hc0) hsm B bs.length cb
  have HPL := Lib.hid (fun h => @plain_zero x bs.length h)
  have hF : matchP x bs = if askedP x bs.length ≠ 0 then (false, askedP x bs.length) else (decide ((ranP x bs).1 = (bs.length : Int)), 0) := rfl
  obtain ⟨e0, he⟩ : ∃ e, askedP x bs.length = e := ⟨_, rfl⟩
  rw [he] at has hF HPL
  have HF := Lib.hid hF
  have HB := Lib.hid hB
  clear he hF hB
  go_enter Tryd.func27, Tryd.ntmps27
  go_wp2_with fail
  refine has.mono ?_
  rintro e w1 ⟨rfl, hc1⟩
  have hb1 := hb.chg hc1 id
  have k1 := hc0.trans hc1
  by_cases q0 : e0 = 0
  rotate_left
  · have e1 : (e0 != 0) = true := by simpa using q0
    go_wp2
    go_ret2
    refine ⟨?_, k1⟩
    rw [HF.out, if_pos q0] <;> rfl
  · subst q0
    obtain ⟨hR, hp, hn, hn4⟩ := HPL.out rfl
    have hnet := net_any x hn4 A n c S w1 B bs.length cb bs (hl.chgNo k1) (HB.out.chgNo k1) hn
    have hrs := ran_spec x hR hp bs
    have HN := Lib.hid hnet
    have HR := Lib.hid hR
    have y0 := hb1.cell 0
    have y1 := hb1.cell 1
    have y2 := hb1.cell 2
    have y3 := hb1.cell 3
    have y4 := hb1.cell 4
    have y5 := hb1.cell 5
    simp only [List.getElem?_toArray, List.getElem?_cons_zero, List.getElem?_cons_succ] at y0 y1 y2 y3 y4 y5
    clear hnet
    go_wp2_with fail
    refine HN.out.mono ?_
    rintro e w2 ⟨F, s, rfl, hNK, hFk, hw0, hbF, ht, hlv⟩
    have HE := Lib.hid (ends_zero x HR.out hNK hFk ht)
    rw [hw0, hbF] at HE
    clear y0 y1 y2 y3 y4 y5 hNK hFk ht hlv
    go_wp2_with fail
    refine HE.out.mono ?_
    rintro e w3 ⟨u, l, rfl, hc3, hI, hPl⟩
    have k3 := k1.trans hc3
    have hll := last_long hPl hrs.1
    have hHI := hI
    obtain ⟨Au, cu, rfl, _, _⟩ := hI.form
    rcases hll with ⟨rfl, hn1⟩ | ⟨k, hk, hk1, hn1⟩
    · have hfin : decide ((ranP x bs).1 = (bs.length : Int)) = false := by rw [hn1]; exact decide_eq_false (by omega)
      have HFI := Lib.hid hfin
      clear hfin hn1 hPl
      go_wp2
      go_ret2
      refine ⟨?_, k3⟩
      rw [HF.out, if_neg (by simp), HFI.out] <;> rfl
    · obtain ⟨g, o, c', e1, z⟩ := hHI.cell hk
      cases e1
      rw [hk1] at z
      have hl0 : (l.length : Int) > 0 := by omega
      have hz : ((l.length - 1 : Nat) : Int) = (l.length : Int) - 1 := by omega
      have hz0 : (0 : Int) ≤ (l.length : Int) - 1 := by omega
      have hz1 : (l.length : Int) - 1 < (l.length : Int) := by omega
      have hfin : decide ((ranP x bs).1 = (bs.length : Int)) = decide ((k : Int) = (bs.length : Int)) := by rw [hn1]
      have HFI := Lib.hid hfin
      clear hk hk1 hPl hI hHI hn1 hfin
      go_wp2
      go_ret2
      refine ⟨?_, k3⟩
      rw [HF.out, if_neg (by simp), HFI.out] <;> rfl

set_option maxHeartbeats 1000000 in
set_option maxRecDepth 100000 in
theorem rLive_any (x : Ex) (A : Option Addr) (n c : Nat) (S : Nat → Prop) (w : World) (hl : Sl w S A n c x.l) (hsm : lenOk x) (B : Option Addr) (m cb : Nat) (bs : List Nat) (hB : Byt w B m cb bs) :
    Calls Tryd.prog 29 #[.agg #[.int .i64 x.k, .int .i64 x.f, .int .i64 x.t, .int .i64 x.a, .int .i64 x.b, .slice A n c], .slice B m cb] w
      fun e w' => e = .returned (.tuple #[.bool (liveP x bs).1, .int .i64 (liveP x bs).2]) ∧ Chg No w w' := by
  have hb := Blk.new w 25 #[.int .i64 x.k, .int .i64 x.f, .int .i64 x.t, .int .i64 x.a, .int .i64 x.b, .slice A n c]
  have hc0 : Chg No w (w.alloc (.cells #[.int .i64 x.k, .int .i64 x.f, .int .i64 x.t, .int .i64 x.a, .int .i64 x.b, .slice A n c] 25)) := (Chg.refl _ _).alloc _
  have hm := hB.1
  subst hm
  have hlc := hB.2.1
  have hcb := hB.2.2.1
  have has := checked_any x A n c S _ (hl.chgNo hc0) hsm B bs.length cb
  have HPL := Lib.hid (fun h => @plain_zero x bs.length h)
  have hF : liveP x bs = if askedP x bs.length ≠ 0 then (false, askedP x bs.length) else ((ranP x bs).2, 0) := rfl
  obtain ⟨e0, he⟩ : ∃ e, askedP x bs.length = e := ⟨_, rfl⟩
  rw [he] at has hF HPL
  have HF := Lib.hid hF
  have HB := Lib.hid hB
  clear he hF hB
  go_enter Tryd.func29, Tryd.ntmps29
  go_wp2_with fail
  refine has.mono ?_
  rintro e w1 ⟨rfl, hc1⟩
  have hb1 := hb.chg hc1 id
  have k1 := hc0.trans hc1
  by_cases q0 : e0 = 0
  rotate_left
  · have e1 : (e0 != 0) = true := by simpa using q0
    go_wp2
    go_ret2
    refine ⟨?_, k1⟩
    rw [HF.out, if_pos q0] <;> rfl
  · subst q0
    obtain ⟨hR, hp, hn, hn4⟩ := HPL.out rfl
    have hnet := net_any x hn4 A n c S w1 B bs.length cb bs (hl.chgNo k1) (HB.out.chgNo k1) hn
    have hrs := ran_spec x hR hp bs
    have HN := Lib.hid hnet
    have HR := Lib.hid hR
    have y0 := hb1.cell 0
    have y1 := hb1.cell 1
    have y2 := hb1.cell 2
    have y3 := hb1.cell 3
    have y4 := hb1.cell 4
    have y5 := hb1.cell 5
    simp only [List.getElem?_toArray, List.getElem?_cons_zero, List.getElem?_cons_succ] at y0 y1 y2 y3 y4 y5
    clear hnet
    go_wp2_with fail
    refine HN.out.mono ?_
    rintro e w2 ⟨F, s, rfl, hNK, hFk, hw0, hbF, ht, hlv⟩
    have HE := Lib.hid (live_zero x HR.out hNK hFk ht hlv)
    rw [hw0, hbF] at HE
    clear y0 y1 y2 y3 y4 y5 hNK hFk ht hlv
    go_wp2_with fail
    refine HE.out.mono ?_
    rintro e w3 ⟨z, rfl, hc3, hz⟩
    have k3 := k1.trans hc3
    have hfin : (ranP x bs).2 = z := by
      rw [Bool.eq_iff_iff, hrs.2, hz]; unfold Lv; rw [List.drop_zero]
    go_wp2
    go_ret2
    refine ⟨?_, k3⟩
    rw [HF.out, if_neg (by simp), hfin] <;> rfl
end Go.Proofs.YticipgjbgcdccaaDoor
