/- Package expr: (net).repeat: contract. -/
import Derived.Test.YticipgjbgcdccaaDoorZ6
set_option linter.unusedSimpArgs false
set_option linter.unusedVariables false
namespace Go.Proofs.YticipgjbgcdccaaDoor
open Go.RowKit
attribute [local go_sem] Oper.semAt_some

set_option maxRecDepth 100000 in
theorem step_append_part {w : World} {ops : Array Oper} {o : Oper} {a : Act} {K : Act → World → Prop} {Q : Exit → Act → World → Prop} {E : Prop} (hgd : o.guard = none) (s x : Operand)
    (ho : o.op = .call { callee := .builtin .append, args := #[s, x], argTypes := #[145, 145] })
    (base : Nat) (v : Value) (n : Nat) (xs : List Value) (hs : a.eval s = v) (hown : w.ownsRow base 109 3 v n xs) (g c sz f l : Nat) (e : Bool) (hx : a.eval x = .slice (some ⟨g, 0, none⟩) 1 c)
    (hb : Blk w g 109 #[.bool e, .slice (some ⟨f, 0, none⟩) sz sz, .slice (some ⟨l, 0, none⟩) sz sz]) (hlen : n ≤ 100000) (hbase : base ≤ w.heap.size)
    (h : ∀ v' w', w'.ownsRow base 109 3 v' (n + 1) (xs ++ [.bool e, .slice (some ⟨f, 0, none⟩) sz sz, .slice (some ⟨l, 0, none⟩) sz sz]) → w.grownBy w' v.ownBlock → (v'.ownBlock = v.ownBlock ∨ v'.ownBlock = some w.heap.size) → K (a.put o.dst v') w') :
    if Region.wanted o (yielded ops a.tmps) = true then Oper.wp Tryd.prog o a w K Q else E := by
  obtain ⟨i0, hi, hz0, hz1, hz2⟩ := info_parts info_part
  exact step_append_row hgd s x _ _ i0 _ 3 56 ho rfl hi hz0 hz1 hz2 rfl (by decide) (by decide) base v n xs hs hown g c [.bool e, .slice (some ⟨f, 0, none⟩) sz sz, .slice (some ⟨l, 0, none⟩) sz sz] hx rfl (by intro u hu; simp at hu; rcases hu with rfl | rfl | rfl <;> rfl) hb hlen hbase h

def partCells (sz : Nat) (l : List (Part × Nat × Nat)) : List Value := l.flatMap fun x => [.bool x.1.e, setV sz x.2.1, setV sz x.2.2]
theorem partCells_get (sz : Nat) : ∀ (l : List (Part × Nat × Nat)) (j : Nat) (x : Part × Nat × Nat), l[j]? = some x →
    (partCells sz l)[j * 3]? = some (.bool x.1.e) ∧ (partCells sz l)[j * 3 + 1]? = some (setV sz x.2.1) ∧ (partCells sz l)[j * 3 + 2]? = some (setV sz x.2.2)
  | [], j, x, h => by simp at h
  | y :: l, 0, x, h => by
    simp at h
    subst h
    simp [partCells]
  | y :: l, j + 1, x, h => by
    have := partCells_get sz l j x (by simpa using h)
    have e : partCells sz (y :: l) = [.bool y.1.e, setV sz y.2.1, setV sz y.2.2] ++ partCells sz l := by simp [partCells]
    rw [e]
    refine ⟨?_, ?_, ?_⟩
    · rw [List.getElem?_append_right (by simp; omega), show (j + 1) * 3 - [Value.bool y.1.e, setV sz y.2.1, setV sz y.2.2].length = j * 3 by simp; omega]; exact this.1
    · rw [List.getElem?_append_right (by simp; omega), show (j + 1) * 3 + 1 - [Value.bool y.1.e, setV sz y.2.1, setV sz y.2.2].length = j * 3 + 1 by simp; omega]; exact this.2.1
    · rw [List.getElem?_append_right (by simp; omega), show (j + 1) * 3 + 2 - [Value.bool y.1.e, setV sz y.2.1, setV sz y.2.2].length = j * 3 + 2 by simp; omega]; exact this.2.2
/-- the copies that have been laid: a row of parts that this call owns -/
structure PartsAt (w : World) (base sz : Nat) (fb : List Nat) (vl : Value) (l : List (Part × Nat × Nat)) : Prop where
  row : w.ownsRow base 109 3 vl l.length (partCells sz l)
  parts : ∀ x ∈ l, PartAt w sz x.2.1 x.2.2 fb x.1
/-- the copies stay where neither their row nor their sets change -/
theorem PartsAt.keep {S : Nat → Prop} {w w' : World} {base sz : Nat} {fb fb' : List Nat} {vl : Value} {l : List (Part × Nat × Nat)} (h : PartsAt w base sz fb vl l) (hc : Chg S w w') (h1 : ∀ k cs, vl.ownBlock = some k → Blk w k 109 cs → ¬ S k)
    (h2 : ∀ g m, SetAt w g sz m → g ∉ fb → ¬ S g) (h3 : ∀ g m, SetAt w g sz m → g ∉ fb → g ∉ fb') : PartsAt w' base sz fb' vl l :=
  ⟨ownsRow_chg h.row hc h1, fun x hx => ⟨(h.parts x hx).F.chg hc (h2 _ _ (h.parts x hx).F (h.parts x hx).nF), (h.parts x hx).L.chg hc (h2 _ _ (h.parts x hx).L (h.parts x hx).nL), h3 _ _ (h.parts x hx).F (h.parts x hx).nF, h3 _ _ (h.parts x hx).L (h.parts x hx).nL⟩⟩

theorem bodyPostM_part {fn : Func} {R : Ending → World → Prop} {a : Act} {w : World} {t0 : Tmp} {g k : Nat} {e : Bool} {A B : Option Addr} {n c m d : Nat} (h : fn.results = #[.cell t0 109]) (hd : a.defers = [])
    (hp : a.tmps.getD t0 undef = .pointer (some ⟨g, 0, none⟩)) (hb : Blk w g 109 #[.bool e, .slice A n c, .slice B m d])
    (hR : R (.returned (.agg #[.bool e, .slice A n c, .slice B m d])) w) : bodyPostM Fence.wide k Tryd.prog fn R .ret a w := by
  have z0 := hb.cell 0
  have z1 := hb.cell 1
  have z2 := hb.cell 2
  simp only [List.getElem?_toArray, List.getElem?_cons_zero, List.getElem?_cons_succ] at z0 z1 z2
  have hp2 := hp
  simp only [Array.getD_eq_getD_getElem?] at hp2
  show LeavesInM Fence.wide k Tryd.prog fn a.tmps R a.defers .returning w
  rw [hd]
  exact ⟨_, by simp [results, h, hp, hp2, go_sem, z0, z1, z2], hR⟩

/-- what is asked where the function does not panic -/
def calm (Q : Exit → Act → World → Prop) : Exit → Act → World → Prop
  | .ret, a, w => Q .ret a w
  | .normal, a, w => Q .normal a w
  | _, _, _ => False
theorem calm_le (Q : Exit → Act → World → Prop) : ∀ e a w, calm Q e a w → Q e a w
  | .ret, _, _, h => h
  | .normal, _, _, h => h
  | .panic _, _, _, h => h.elim
  | .exit _, _, _, h => h.elim
  | .goto _, _, _, h => h.elim
  | .outgrown, _, _, h => h.elim
theorem Chg.then_' {S : Nat → Prop} {w w' w'' : World} (h : Chg No w w') (k : Chg S w' w'') : Chg S w w'' := (h.mono fun _ _ e => e.elim).then_ k fun _ _ e => e
theorem iter_state (y : Ex) (hy : rightP y = true) (n : Nt) (hn : NtOk n.tk.length n) (i : Nat) (hp : i ≠ 0 → positionsP y ≤ 4096) :
    NtOk (iterP (addP y) n i).1.tk.length (iterP (addP y) n i).1 ∧ (∀ p ∈ (iterP (addP y) n i).2, PartOk (iterP (addP y) n i).1.tk.length p) ∧ (iterP (addP y) n i).1.tk.length = n.tk.length + i * (positionsP y).toNat ∧ (iterP (addP y) n i).2.length = i := by
  by_cases h0 : i = 0
  · subst h0
    exact ⟨hn, by simp [iterP], by simp [iterP], rfl⟩
  have hp := hp h0
  have hm : ∀ m ∈ n.fo, m < 2 ^ (n.tk.length + i * (positionsP y).toNat) := fun m hm => Nat.lt_of_lt_of_le (hn.fo m hm) (Nat.pow_le_pow_right (by decide) (by omega))
  have := iterP_lays (addP_lays (n.tk.length + i * (positionsP y).toNat) _ y (Nat.lt_succ_self _) hy hp) n ⟨hn.len, by omega, hm⟩ i (Nat.le_refl _)
  rw [this.2.2.1]
  exact ⟨this.1, this.2.1, rfl, this.2.2.2⟩
theorem iterP_len (g : Nt → Nt × Part) (n : Nt) : ∀ i, (iterP g n i).2.length = i
  | 0 => rfl
  | i + 1 => by simp [iterP, iterP_len g n i]
theorem PartsAt.own {w : World} {base sz : Nat} {fb : List Nat} {vl : Value} {l : List (Part × Nat × Nat)} (h : PartsAt w base sz fb vl l) {k : Nat} (hk : vl.ownBlock = some k) : base ≤ k ∧ k < w.heap.size := by
  obtain ⟨h1, cs, h2⟩ := ownsRow_blk h.row hk
  exact ⟨h1, h2.lt⟩

/-- what the second loop keeps: k copies are still to be laid ahead of what is there -/
structure BackI (w wr : World) (base G sz : Nat) (vt vf v3 v4 v5 : Value) (fb : List Nat) (f0 t0 a b : Int) (g o c : Nat) (vl : Value) (pl : List (Part × Nat × Nat)) (vt' vf' : Value) (fb' : List Nat) (tk : List (Int × Int)) (fo0 : List Nat) (O ib k f l : Nat) : Prop where
  alt : AltI w wr base G sz vt vf v3 v4 v5 fb O ⟨tk, (backP a b k ((pl.map (·.1)).drop k) fo0).1⟩ (backP a b k ((pl.map (·.1)).drop k) fo0).2 vt' vf' fb' f l
  pts : PartsAt wr (w.heap.size + 4) sz fb' vl pl
  bn : Blk wr w.heap.size 83 #[.pointer (some ⟨G, 0, none⟩)]
  be : Blk wr (w.heap.size + 1) 25 #[.int .i64 4, .int .i64 f0, .int .i64 t0, .int .i64 a, .int .i64 b, .slice (some ⟨g, o, none⟩) 1 c]
  bR : Blk wr (w.heap.size + 2) 109 #[.bool false, .slice none 0 0, .slice none 0 0]
  bL : Blk wr (w.heap.size + 3) 145 #[vl]
  bi : Blk wr ib 3 #[.int .i64 ((k : Int) - 1)]
  ow : ∀ q, vl.ownBlock = some q → q < O
  oO : w.heap.size + 4 ≤ O

/-- one copy more is laid: its part is stored, the counter goes down -/
theorem back_next {w w6 w7 : World} {base G sz : Nat} {vt vf v3 v4 v5 : Value} {fb : List Nat} {f0 t0 a b : Int} {g o c : Nat} {vl : Value} {pl : List (Part × Nat × Nat)} {vt' vf' : Value} {fb' : List Nat} {tk : List (Int × Int)} {fo0 fom : List Nat} {O f6 l6 F L : Nat} {E : Bool} {cs : Array Value} (m ib : Nat) (hib : w7.heap.size = ib)
    (hE : backP a b m ((pl.map (·.1)).drop m) fo0 = (fom, ⟨E, F, L⟩)) (G6 : Grow w w6 base G sz vt vf fb ⟨tk, fom⟩ vt' vf' v3 v4 v5 fb') (pts : PartsAt w6 (w.heap.size + 4) sz fb' vl pl) (bn : Blk w6 w.heap.size 83 #[.pointer (some ⟨G, 0, none⟩)])
    (be : Blk w6 (w.heap.size + 1) 25 #[.int .i64 4, .int .i64 f0, .int .i64 t0, .int .i64 a, .int .i64 b, .slice (some ⟨g, o, none⟩) 1 c]) (bR : Blk w6 (w.heap.size + 2) 109 #[.bool false, .slice none 0 0, .slice none 0 0]) (bL : Blk w6 (w.heap.size + 3) 145 #[vl])
    (ow : ∀ q, vl.ownBlock = some q → q < O) (oO : w.heap.size + 4 ≤ O) (bO : Blk w6 O 109 cs) (s6 : SetAt w6 f6 sz F) (t6 : SetAt w6 l6 sz L) (nf : f6 ∉ fb') (nl : l6 ∉ fb') (ne : f6 ≠ l6) (hf : w.heap.size ≤ f6) (hl : w.heap.size ≤ l6)
    (cO : Chg (One O) w6 w7) (bO7 : Blk w7 O 109 #[.bool E, .slice (some ⟨f6, 0, none⟩) sz sz, .slice (some ⟨l6, 0, none⟩) sz sz]) :
    BackI w (w7.alloc (.cells #[.int .i64 ((m : Int) - 1)] 3)) base G sz vt vf v3 v4 v5 fb f0 t0 a b g o c vl pl vt' vf' fb' tk fo0 O ib m f6 l6 := by
  have cA : Chg No w7 (w7.alloc (.cells #[.int .i64 ((m : Int) - 1)] 3)) := (Chg.refl No w7).alloc _
  have c8 : Chg (One O) w6 (w7.alloc (.cells #[.int .i64 ((m : Int) - 1)] 3)) := cO.alloc _
  refine ⟨?_, pts.keep c8 (fun k _ hk _ e => ?_) (fun g0 m0 hs _ e => hs.1.ne_ bO (by decide) e) (fun _ _ _ h => h), bn.chg c8 (bn.ne_ bO (by decide)), be.chg c8 (be.ne_ bO (by decide)), bR.chg c8 (fun e => ?_), bL.chg c8 (bL.ne_ bO (by decide)), Blk.new' hib, ow, oO⟩
  · rw [hE]
    refine ⟨G6.after c8 (fun k hk e => ?_) (fun k e => ?_), ⟨s6.chg c8 (fun e => s6.1.ne_ bO (by decide) e), t6.chg c8 (fun e => t6.1.ne_ bO (by decide) e), nf, nl⟩, ne, hf, hl, bO7.chg cA id⟩
    · have e' : k = O := e
      subst e'
      exact G6.net.not_net bO (by decide) (by decide) (by decide) (.inl (by decide)) hk
    · have e' : k = O := e
      omega
  · have e' : k = O := e
    have := ow k hk
    omega
  · have e' : w.heap.size + 2 = O := e
    omega

theorem NetAt.is_blk {w : World} {base G sz : Nat} {n : Nt} {vt vf v3 v4 v5 : Value} {fb : List Nat} (h : NetAt w base G sz n vt vf v3 v4 v5 fb) {k : Nat} (hk : NetS G vt vf fb k) : ∃ t cs, Blk w k t cs := by
  rcases hk with rfl | hk | hk | hk
  · exact ⟨_, _, h.blk⟩
  · obtain ⟨_, cs, hb⟩ := ownsRow_blk h.tk hk; exact ⟨_, cs, hb⟩
  · obtain ⟨_, cs, hb⟩ := ownsRow_blk h.fo hk; exact ⟨_, cs, hb⟩
  · obtain ⟨cs, hb⟩ := h.fb_set hk; exact ⟨_, cs, hb⟩
/-- the loop's block for deferred calls is shut -/
theorem AddPost.put {w wz : World} {base G sz D : Nat} {vt vf v3 v4 v5 : Value} {fb : List Nat} {r : Nt × Part} {e : Ending} (h : AddPost w base G sz vt vf v3 v4 v5 fb r e wz) (hD : wz.heap[D]? = some (.deferred (some []))) (hw : w.heap.size ≤ D) :
    AddPost w base G sz vt vf v3 v4 v5 fb r e (wz.putObj D (.deferred none)) := by
  obtain ⟨vt', vf', fb', f, l, he, hG, hP, hf, hl, hfl⟩ := h
  have c : Chg (One D) wz (wz.putObj D (.deferred none)) := Chg.putObj (Chg.refl (One D) wz) _ (fun _ => rfl)
  refine ⟨vt', vf', fb', f, l, he, hG.after c (fun k hk e => ?_) (fun k e => ?_), ⟨hP.F.chg c fun e => hP.F.1.not_deferred hD e, hP.L.chg c fun e => hP.L.1.not_deferred hD e, hP.nF, hP.nL⟩, hf, hl, hfl⟩
  · obtain ⟨t, cs, hb⟩ := hG.net.is_blk hk
    exact hb.not_deferred hD e
  · have e' : k = D := e
    omega

/-- a round of a loop over a part's last positions: the sets that follow them grow -/
theorem catI_round {w0 W w' : World} {base G sz : Nat} {n : Nt} {vt vf v3 v4 v5 : Value} {fb fo : List Nat} {m la bF q : Nat} {pre : List (Mem m)} {x : Mem m} (hn : NetAt w0 base G sz n vt vf v3 v4 v5 fb) (hfo : n.fo = fo) (hp1 : x.1 < fb.length) (hla : la ∉ fb) (hg : 0 < base)
    (hI1 : Chg (In fb) w0 W) (hI2 : ∀ (p g k : Nat), fb[p]? = some g → (linkL bF (pre.map (·.1)) fo)[p]? = some k → SetAt W g sz k) (hsx : SetAt W la sz m) (hq : (linkL bF (pre.map (·.1)) fo)[x.1]? = some q) (hs1 : SetAt W fb[x.1] sz q)
    (hj1 : SetAt w' fb[x.1] sz (q ||| bF)) (hch : Chg (One fb[x.1]) W w') : KeepsOthers W w' ∧ EachK la W w' ∧ CatI w0 sz bF fb fo (pre ++ [x]) w' := by
  have hmem : fb[x.1] ∈ fb := List.getElem_mem hp1
  have hG := hn.blk.lt
  have hGo := hn.old.1
  refine ⟨keeps_of_chg hch fun k o hk ho => blk_cells (hk ▸ hs1.1) o ho, ⟨hch.block la hsx.lt fun e => hla (e ▸ hmem), hch.block _ (by have := hI1.size; omega) fun e => ?_⟩, hI1.then_ hch fun k _ e => e ▸ hmem, ?_⟩
  · have := hn.old.2 _ hmem
    have e' : 0 = fb[x.1] := e
    omega
  · intro p g k hp hk
    have hsn : linkL bF ((pre ++ [x]).map (·.1)) fo = (linkL bF (pre.map (·.1)) fo).modify x.1 (· ||| bF) := by
      simp [linkL]
    rw [hsn, List.getElem?_modify] at hk
    by_cases e : x.1 = p
    · subst e
      rw [hq] at hk
      simp at hk
      rw [List.getElem?_eq_getElem hp1] at hp
      injection hp with hp
      subst hp hk
      exact hj1
    · simp [e] at hk
      refine (hI2 p g k hp hk).chg hch fun e2 => ?_
      have e3 : g = fb[x.1] := e2
      obtain ⟨hpl, rfl⟩ := List.getElem?_eq_some_iff.1 hp
      exact e ((List.getElem_inj hn.nodup).1 e3).symm

set_option maxHeartbeats 20000000 in
set_option maxRecDepth 100000 in
theorem rep_any (f0 t0 a b : Int) (y : Ex) (hR : rightP (.mk 4 f0 t0 a b [y]) = true) (hnd : nodesP y ≤ 4096) (hC : copiesP a b ≠ 0 → AddC y) (hpos : positionsP y * copiesP a b ≤ 4096)
    (base G sz : Nat) (n : Nt) (vt vf v3 v4 v5 : Value) (fb : List Nat) (A : Option Addr) (c : Nat) (w : World) (hz : sz ≤ 1000) (hn : NetAt w base G sz n vt vf v3 v4 v5 fb) (hd : Deb w) (hg : 0 < base) (hl : Sl w (fun k => k < base) A 1 c [y])
    (hok : NtOk n.tk.length n) (hr1 : n.tk.length + (positionsP y * copiesP a b).toNat ≤ 64 * sz) (hr2 : n.tk.length + (positionsP y * copiesP a b).toNat ≤ 4096) :
    Calls Tryd.prog 120 #[.pointer (some ⟨G, 0, none⟩), .agg #[.int .i64 4, .int .i64 f0, .int .i64 t0, .int .i64 a, .int .i64 b, .slice A 1 c]] w
      (AddPost w base G sz vt vf v3 v4 v5 fb (repP (positionsS [y]) a b (addsP [y]) n)) := by
  have HD := Lib.hid hd
  have HC := Lib.hid hC
  obtain ⟨hh, hr⟩ := rightP_head hR
  have hy := hr y (by simp)
  have hpy := positionsP_le y hy
  have hcp := copiesP_le hh rfl
  have ey : positionsS [y] = positionsP y := by simp [positionsS]
  rw [ey]
  obtain ⟨g, o, A', c', hA, hS, x0, x1, x2, x3, x4, x5, hxx⟩ := hl.at_ 0 (by simp)
  subst hA
  simp only [List.getElem_cons_zero, Nat.zero_mul, Nat.add_zero] at x0 x1 x2 x3 x4 x5 hxx
  have c0 : Chg No w ((((w.alloc (.cells #[.pointer (some ⟨G, 0, none⟩)] 83)).alloc (.cells #[.int .i64 4, .int .i64 f0, .int .i64 t0, .int .i64 a, .int .i64 b, .slice (some ⟨g, o, none⟩) 1 c] 25)).alloc (.cells #[.bool false, .slice none 0 0, .slice none 0 0] 109)).alloc (.cells #[.slice none 0 0] 145)) := ((((Chg.refl No w).alloc _).alloc _).alloc _).alloc _
  have bn : Blk ((((w.alloc (.cells #[.pointer (some ⟨G, 0, none⟩)] 83)).alloc (.cells #[.int .i64 4, .int .i64 f0, .int .i64 t0, .int .i64 a, .int .i64 b, .slice (some ⟨g, o, none⟩) 1 c] 25)).alloc (.cells #[.bool false, .slice none 0 0, .slice none 0 0] 109)).alloc (.cells #[.slice none 0 0] 145)) w.heap.size 83 #[.pointer (some ⟨G, 0, none⟩)] := (((Blk.new' rfl).alloc _).alloc _).alloc _
  have be : Blk ((((w.alloc (.cells #[.pointer (some ⟨G, 0, none⟩)] 83)).alloc (.cells #[.int .i64 4, .int .i64 f0, .int .i64 t0, .int .i64 a, .int .i64 b, .slice (some ⟨g, o, none⟩) 1 c] 25)).alloc (.cells #[.bool false, .slice none 0 0, .slice none 0 0] 109)).alloc (.cells #[.slice none 0 0] 145)) (w.heap.size + 1) 25 #[.int .i64 4, .int .i64 f0, .int .i64 t0, .int .i64 a, .int .i64 b, .slice (some ⟨g, o, none⟩) 1 c] := ((Blk.new' (by simp)).alloc _).alloc _
  have bR : Blk ((((w.alloc (.cells #[.pointer (some ⟨G, 0, none⟩)] 83)).alloc (.cells #[.int .i64 4, .int .i64 f0, .int .i64 t0, .int .i64 a, .int .i64 b, .slice (some ⟨g, o, none⟩) 1 c] 25)).alloc (.cells #[.bool false, .slice none 0 0, .slice none 0 0] 109)).alloc (.cells #[.slice none 0 0] 145)) (w.heap.size + 2) 109 #[.bool false, .slice none 0 0, .slice none 0 0] := (Blk.new' (by simp)).alloc _
  have bL : Blk ((((w.alloc (.cells #[.pointer (some ⟨G, 0, none⟩)] 83)).alloc (.cells #[.int .i64 4, .int .i64 f0, .int .i64 t0, .int .i64 a, .int .i64 b, .slice (some ⟨g, o, none⟩) 1 c] 25)).alloc (.cells #[.bool false, .slice none 0 0, .slice none 0 0] 109)).alloc (.cells #[.slice none 0 0] 145)) (w.heap.size + 3) 145 #[.slice none 0 0] := Blk.new' (by simp)
  have hW0 : ((((w.alloc (.cells #[.pointer (some ⟨G, 0, none⟩)] 83)).alloc (.cells #[.int .i64 4, .int .i64 f0, .int .i64 t0, .int .i64 a, .int .i64 b, .slice (some ⟨g, o, none⟩) 1 c] 25)).alloc (.cells #[.bool false, .slice none 0 0, .slice none 0 0] 109)).alloc (.cells #[.slice none 0 0] 145)).heap.size = w.heap.size + 4 := by simp
  have hkeep : ∀ w2, Chg No w w2 → ∀ (p : Addr) (v : Value), w.cell? p = some v → w2.cell? p = some v := fun w2 h p v hp => (h.below.cell (World.block_lt_of_cell? _ p hp)).trans hp
  have z0 := hkeep _ c0 _ _ x0
  have z1 := hkeep _ c0 _ _ x1
  have z2 := hkeep _ c0 _ _ x2
  have z3 := hkeep _ c0 _ _ x3
  have z4 := hkeep _ c0 _ _ x4
  have z5 := hkeep _ c0 _ _ x5
  have hpc := positions_any _ y.k y.f y.t y.a y.b A' _ c' y.l _ _ (Nat.lt_succ_self _) (hxx.chgNo c0) (by rw [Ex.eta]; exact hy) (by rw [Ex.eta]; exact hnd)
  rw [Ex.eta] at hpc
  have e5 := be.cell 5
  simp only [List.getElem?_toArray, List.getElem?_cons_zero, List.getElem?_cons_succ] at e5
  obtain ⟨Y, hY⟩ : ∃ Y, positionsP y = Y := ⟨_, rfl⟩
  rw [hY] at hpc hpy hpos hr1 hr2 ⊢
  have hRF : repP Y a b (addsP [y]) n = if Y = 0 then (n, ⟨true, 0, 0⟩) else (⟨(iterP (addP y) n (copiesP a b).toNat).1.tk, (backP a b 0 (iterP (addP y) n (copiesP a b).toNat).2 (iterP (addP y) n (copiesP a b).toNat).1.fo).1⟩, (backP a b 0 (iterP (addP y) n (copiesP a b).toNat).2 (iterP (addP y) n (copiesP a b).toNat).1.fo).2) := rfl
  obtain ⟨RR, hRR⟩ : ∃ RR, repP Y a b (addsP [y]) n = RR := ⟨_, rfl⟩
  rw [hRR] at hRF ⊢
  have HRF := Lib.hid hRF
  have HY := Lib.hid hY
  clear hRF hRR hY hC hd hh
  refine (callsIn_wide (n := 6)).1 ?_
  refine callsIn_of_wp_marks Tryd.func120 rfl trivial ?_ rfl
  simp only [Tryd.ntmps120, List.size_toArray, List.length_cons, List.length_nil, Nat.reduceAdd, Nat.reduceSub, Array.replicate_succ, Array.replicate_zero, List.push_toArray, List.append_toArray, List.nil_append, List.cons_append]
  refine wpIn_wide.2 (wp_mono ?_ (calm_le _))
  go_wp2_with fail
  refine hpc.mono ?_
  rintro e w1 ⟨rfl, c1⟩
  clear hpc z0 z1 z2 z3 z4 z5
  have cw1 := c0.trans c1
  have bn1 := bn.chg c1 id
  have be1 := be.chg c1 id
  have bR1 := bR.chg c1 id
  have bL1 := bL.chg c1 id
  have hW1 := c1.size
  have y0 := bn1.cell 0
  have hG1 := (hn.blk.chg cw1 id).cell 0
  have e0 := be1.cell 0
  have e1 := be1.cell 1
  have e2 := be1.cell 2
  have e3 := be1.cell 3
  have e4 := be1.cell 4
  have e5 := be1.cell 5
  simp only [List.getElem?_toArray, List.getElem?_cons_zero, List.getElem?_cons_succ] at y0 hG1 e0 e1 e2 e3 e4 e5
  by_cases p0 : Y = 0
  · subst p0
    have hRF : RR = (n, ⟨true, 0, 0⟩) := by rw [HRF.out, if_pos rfl]
    subst hRF
    obtain ⟨q1, q2, q3, q4, q5, q6⟩ := part_cells bR1
    go_wp2_with fail
    refine (bare_any G sz true _ hz hG1).mono ?_
    rintro e w2 ⟨fs, ls, rfl, hf, hfl, hs1, hs2, c2⟩
    unfold partV
    have bR2 := bR1.chg c2 id
    obtain ⟨q1, q2, q3, q4, q5, q6⟩ := part_cells bR2
    go_wp2
    have hbz := ((bR2.set_ 0 (.bool true)).set_ 1 (.slice (some ⟨fs, 0, none⟩) sz sz)).set_ 2 (.slice (some ⟨ls, 0, none⟩) sz sz)
    refine bodyPostM_part (k := 6) rfl rfl rfl hbz ?_
    exact add_close _ _ _ (Grow.start hn (cw1.trans c2)) ⟨hs1, hs2, fun e => by have := hn.fb_lt fs e; omega, fun e => by have := hn.fb_lt ls e; omega⟩ (by omega) (by omega) (by omega) bR2 (by omega)
  · have p1 : (Y == 0) = false := by simpa using p0
    have hRF : RR = (⟨(iterP (addP y) n (copiesP a b).toNat).1.tk, (backP a b 0 (iterP (addP y) n (copiesP a b).toNat).2 (iterP (addP y) n (copiesP a b).toNat).1.fo).1⟩, (backP a b 0 (iterP (addP y) n (copiesP a b).toNat).2 (iterP (addP y) n (copiesP a b).toNat).1.fo).2) := by rw [HRF.out, if_neg p0]
    have HRF2 := Lib.hid hRF
    clear HRF hRF
    obtain ⟨C, hC⟩ : ∃ C : Nat, copiesP a b = (C : Int) := ⟨(copiesP a b).toNat, by omega⟩
    have hcc := copies_any 4 f0 t0 a b (some ⟨g, o, none⟩) 1 c w1
    rw [hC] at hcc HRF2 hcp hpos hr1 hr2
    rw [Int.toNat_natCast] at HRF2
    have HCC := Lib.hid hC
    clear hC
    go_wp2_with fail
    refine hcc.mono ?_
    rintro e w2 ⟨rfl, c2⟩
    clear hcc
    go_wp2_with fail
    have cw2 := cw1.trans c2
    have hW2 := c2.size
    have bn2 := bn1.chg c2 id
    have be2 := be1.chg c2 id
    have bR2 := bR1.chg c2 id
    have bL2 := bL1.chg c2 id
    have hY1 : 1 ≤ Y := by omega
    have hYC : C ≠ 0 → Y ≤ 4096 := fun h => by
      have : Y * 1 ≤ Y * C := Int.mul_le_mul_of_nonneg_left (by omega) (by omega)
      omega
    have hmulN : (Y * (C : Int)).toNat = C * Y.toNat := by
      rw [Int.mul_comm, Int.toNat_mul (by omega) (by omega), Int.toNat_natCast]
    rw [hmulN] at hr1 hr2
    clear y0 hG1 e0 e1 e2 e3 e4 e5 bn be bR bL bn1 be1 bR1 bL1 x0 x1 x2 x3 x4 x5
    go_loopw [19] (fun v19 wr => ∃ (i : Nat) (vt' vf' : Value) (fb' : List Nat) (vl : Value) (pl : List (Part × Nat × Nat)), i ≤ C ∧ v19 = .int .i64 (i : Int) ∧ pl.map (·.1) = (iterP (addP y) n i).2 ∧ Grow w wr base G sz vt vf fb (iterP (addP y) n i).1 vt' vf' v3 v4 v5 fb' ∧ PartsAt wr (w.heap.size + 4) sz fb' vl pl ∧
      Blk wr w.heap.size 83 #[.pointer (some ⟨G, 0, none⟩)] ∧ Blk wr (w.heap.size + 1) 25 #[.int .i64 4, .int .i64 f0, .int .i64 t0, .int .i64 a, .int .i64 b, .slice (some ⟨g, o, none⟩) 1 c] ∧ Blk wr (w.heap.size + 2) 109 #[.bool false, .slice none 0 0, .slice none 0 0] ∧ Blk wr (w.heap.size + 3) 145 #[vl]) (fun v _ => C - (intOf v).toNat)
    case atStart => exact ⟨0, vt, vf, fb, .slice none 0 0, [], Nat.zero_le _, rfl, rfl, Grow.start hn cw2, ⟨⟨rfl, .inl ⟨rfl, rfl⟩⟩, by simp⟩, bn2, be2, bR2, bL2⟩
    case round =>
      obtain ⟨i, vt', vf', fb', vl, pl, hi, rfl, hpl, hGr, hPs, bn3, be3, bR3, bL3⟩ := hrel
      by_cases hlt : i < C
      · have hYl := hYC (by omega)
        have hst := iter_state y hy n hok i (fun _ => by rw [HY.out]; exact hYl)
        rw [HY.out] at hst
        obtain ⟨st1, st2, st3, st4⟩ := hst
        have hsn : iterP (addP y) n (i + 1) = ((addP y (iterP (addP y) n i).1).1, (iterP (addP y) n i).2 ++ [(addP y (iterP (addP y) n i).1).2]) := rfl
        have hmul : (i + 1) * Y.toNat ≤ C * Y.toNat := Nat.mul_le_mul_right _ (by omega)
        rw [Nat.succ_mul] at hmul
        have hpll : pl.length = i := by
          have := congrArg List.length hpl
          rw [List.length_map, st4] at this
          exact this
        obtain ⟨r, hr'⟩ : ∃ r, iterP (addP y) n i = r := ⟨_, rfl⟩
        rw [hr'] at hpl hGr st1 st3 hsn
        obtain ⟨n1, pp⟩ := r
        simp only at hpl hGr st1 st3 hsn
        have hB := hl.chg hGr.chg (fun k hk e => by have := hn.base_le e; omega)
        obtain ⟨g2, o2, A2, cc2, hA2, _, x0, x1, x2, x3, x4, x5, hxx2⟩ := hB.at_ 0 (by simp)
        obtain ⟨rfl, rfl⟩ : g = g2 ∧ o = o2 := by
          injection hA2 with hA2
          injection hA2 with h1 h2
          exact ⟨h1, h2⟩
        simp only [List.getElem_cons_zero, Nat.zero_mul, Nat.add_zero] at x0 x1 x2 x3 x4 x5 hxx2
        have cD : Chg No wr wr.drew := (Chg.refl No wr).drew
        have nD := hGr.net.keepNo cD
        have dD := (hGr.deb hn HD.out hg).chg cD id
        have hcall := HC.out (by have := HCC.out; omega) base G sz n1 vt' vf' v3 v4 v5 fb' A2 _ cc2 wr.drew hz nD dD hg (hxx2.chgNo cD) st1 (by rw [HY.out]; omega) (by rw [HY.out]; omega)
        obtain ⟨q, hq⟩ : ∃ q, addP y n1 = q := ⟨_, rfl⟩
        rw [hq] at hcall hsn
        obtain ⟨n2, p⟩ := q
        unfold AddPost partV at hcall
        simp only at hcall
        have HSN := Lib.hid hsn
        have HPL := Lib.hid hpl
        clear hq hr' hsn hpl st2 hA2
        have y0 := bn3.cell 0
        have e5 := be3.cell 5
        have l0 := bL3.cell 0
        simp only [List.getElem?_toArray, List.getElem?_cons_zero, List.getElem?_cons_succ] at y0 e5 l0
        have nL := nD.not_net (bL3.drew) (by decide) (by decide) (by decide) (.inl (by decide))
        have hw4 : w.heap.size + 4 ≤ wr.heap.size := by have := bL3.lt; omega
        go_wp2_with fail
        go_region_law (first | (go_simp; go_at_call 90; refine hcall.mono ?_; rintro e w3 ⟨vt2, vf2, fb2, f2, l2, rfl, hG2, hp2, hf2, hl2, hfl2⟩; have bL4 := bL3.drew.chg hG2.chg nL; have l1 := bL4.cell 0; have l2_ := (bL4.alloc (.cells #[.bool p.e, .slice (some ⟨f2, 0, none⟩) sz sz, .slice (some ⟨l2, 0, none⟩) sz sz] 109)).cell 0; have hP3 : PartsAt w3 (w.heap.size + 4) sz fb2 vl pl := PartsAt.keep (S := NetS G vt' vf' fb') ⟨hPs.row, hPs.parts⟩ (cD.then_' hG2.chg) (fun k cs hk hb => nD.not_net hb.drew (by decide) (by decide) (by decide) (.inl (by decide))) (fun g m hs hgn => nD.not_net hs.1.drew (by decide) (by decide) (by decide) (.inr hgn)) (fun g m hs hgn e => hG2.not_new (nD.not_net hs.1.drew (by decide) (by decide) (by decide) (.inr hgn)) hs.lt (.inr (.inr (.inr e)))); have hrow4 := ownsRow_chg hP3.row ((Chg.refl No w3).alloc (.cells #[.bool p.e, .slice (some ⟨f2, 0, none⟩) sz sz, .slice (some ⟨l2, 0, none⟩) sz sz] 109)) (fun _ _ _ _ => id); rw [hpll] at hrow4; have hz3 := hG2.chg.size; simp only [List.getElem?_toArray, List.getElem?_cons_zero, List.getElem?_cons_succ] at l1 l2_) | (refine step_append_part (by rfl) _ _ (by rfl) (w.heap.size + 4) vl i (partCells sz pl) (by rfl) hrow4 _ 1 sz f2 l2 p.e (by rfl) (Blk.new _ _ _) (by omega) (by simp; simp at hz3; omega) ?_; intro v' w5 hO5 hgr hat; obtain ⟨g', cap', rfl⟩ := ownsRow_succ hO5; have c5 : Chg (fun k => vl.ownBlock = some k) w3 w5 := (((Chg.refl No w3).alloc (.cells #[.bool p.e, .slice (some ⟨f2, 0, none⟩) sz sz, .slice (some ⟨l2, 0, none⟩) sz sz] 109)).mono fun _ _ e => e.elim).then_ (Chg.of_grown (S := fun k => vl.ownBlock = some k) hgr fun k e _ => e) fun _ _ e => e; have nL5 : ¬ vl.ownBlock = some (w.heap.size + 3) := (fun e => by have := (hPs.own e).1; omega); have l5 := (bL4.chg c5 nL5).cell 0; have l6 := (bL4.chg c5 nL5).frozen 0; simp only [List.getElem?_toArray, List.getElem?_cons_zero, List.getElem?_cons_succ] at l5))
        all_goals
          go_wp2
          have hL5 : Chg (One (w.heap.size + 3)) w5 (w5.setCell ⟨w.heap.size + 3, 0, none⟩ (.slice (some ⟨g', 0, none⟩) (i + 1) cap')) := Chg.setCell (S := One (w.heap.size + 3)) (Chg.refl (One (w.heap.size + 3)) w5) (p := ⟨w.heap.size + 3, 0, none⟩) _ fun _ => rfl
          have cS : Chg (fun k => vl.ownBlock = some k ∨ k = w.heap.size + 3) w3 (w5.setCell ⟨w.heap.size + 3, 0, none⟩ (.slice (some ⟨g', 0, none⟩) (i + 1) cap')) := (c5.mono fun k _ e => .inl e).then_ hL5 fun k _ e => .inr e
          have nV : ∀ k, vl.ownBlock = some k → w.heap.size + 4 ≤ k := fun k hk => (hPs.own hk).1
          have bn4 := ((bn3.drew).chg hG2.chg (nD.not_net bn3.drew (by decide) (by decide) (by decide) (.inl (by decide)))).chg cS (fun e => by rcases e with e | e; have := nV _ e; omega; omega)
          have be4 := ((be3.drew).chg hG2.chg (nD.not_net be3.drew (by decide) (by decide) (by decide) (.inl (by decide)))).chg cS (fun e => by rcases e with e | e; have := nV _ e; omega; omega)
          have bR4 := ((bR3.drew).chg hG2.chg (nD.not_net bR3.drew (by decide) (by decide) (by decide) (.inl (by decide)))).chg cS (fun e => by rcases e with e | e; have := nV _ e; omega; omega)
          have bL5 := bL4.chg c5 nL5
          have nset : ∀ g0 m0, SetAt w3 g0 sz m0 → ¬ (vl.ownBlock = some g0 ∨ g0 = w.heap.size + 3) := by
            rintro g0 m0 hs (e | e)
            · obtain ⟨_, cs, hb⟩ := ownsRow_blk hP3.row e
              exact hs.1.ne_ hb (by decide) rfl
            · exact hs.1.ne_ bL4 (by decide) e
          refine ⟨⟨i + 1, vt2, vf2, fb2, .slice (some ⟨g', 0, none⟩) (i + 1) cap', pl ++ [(p, f2, l2)], by omega, by go_num, ?_, ?_, ⟨?_, ?_⟩, bn4, be4, bR4, bL5.set_ 0 _⟩, by simp [intOf]; omega⟩
          · rw [HSN.out]; simp [HPL.out]
          · rw [HSN.out]
            refine ((hGr.after cD (fun _ _ => id) (fun _ e => e.elim)).trans hG2).after cS ?_ ?_
            · rintro k hk (e | e)
              · obtain ⟨_, cs, hb⟩ := ownsRow_blk hP3.row e
                exact hG2.net.not_net hb (by decide) (by decide) (by decide) (.inl (by decide)) hk
              · subst e
                exact hG2.net.not_net bL4 (by decide) (by decide) (by decide) (.inl (by decide)) hk
            · rintro k (e | e)
              · have := nV k e; omega
              · omega
          · have := ownsRow_chg hO5 hL5 fun k cs hk hb e => bL5.ne_ hb (by decide) (Eq.symm e)
            simpa [partCells, setV, hpll] using this
          · intro x hx
            simp only [List.mem_append, List.mem_singleton] at hx
            rcases hx with hx | rfl
            · have := hP3.parts x hx
              exact ⟨this.F.chg cS (nset _ _ this.F), this.L.chg cS (nset _ _ this.L), this.nF, this.nL⟩
            · exact ⟨hp2.F.chg cS (nset _ _ hp2.F), hp2.L.chg cS (nset _ _ hp2.L), hp2.nF, hp2.nL⟩
      · obtain rfl : i = C := by omega
        have y0 := bn3.cell 0
        have l0 := bL3.cell 0
        have hG3 := hGr.net.blk.cell 0
        simp only [List.getElem?_toArray, List.getElem?_cons_zero, List.getElem?_cons_succ] at y0 l0 hG3
        have hpll : pl.length = i := by
          have := congrArg List.length hpl
          rw [List.length_map, iterP_len] at this
          exact this
        obtain ⟨TV, ctv, hvl⟩ : ∃ TV ctv, vl = .slice TV i ctv := by
          obtain ⟨h1, h2⟩ := hPs.row
          rcases h2 with ⟨rfl, h0⟩ | ⟨g, cap, cur, rfl, _⟩
          · exact ⟨none, 0, by rw [← hpll, h0]⟩
          · exact ⟨_, _, by rw [hpll]⟩
        subst hvl
        go_wp2_with fail
        refine (bare_any G sz true _ hz hG3).mono ?_
        rintro e w4 ⟨fs, ls, rfl, hf, hfl, hs1, hs2, c4⟩
        unfold partV
        have hst := iter_state y hy n hok i (fun h => by rw [HY.out]; exact hYC h)
        have a5 : Chg No w4 (w4.alloc (.cells #[.bool true, .slice (some ⟨fs, 0, none⟩) sz sz, .slice (some ⟨ls, 0, none⟩) sz sz] 109)) := (Chg.refl No w4).alloc _
        have c5 := c4.trans a5
        have bO5 := Blk.new w4 109 #[.bool true, .slice (some ⟨fs, 0, none⟩) sz sz, .slice (some ⟨ls, 0, none⟩) sz sz]
        have bL5 := bL3.chg c5 id
        have l5 := bL5.cell 0
        simp only [List.getElem?_toArray, List.getElem?_cons_zero, List.getElem?_cons_succ] at l5
        obtain ⟨st1, st2, st3, _⟩ := hst
        obtain ⟨⟨tkC, foC⟩, hrC⟩ : ∃ r, (iterP (addP y) n i).1 = r := ⟨_, rfl⟩
        rw [hrC] at hGr st1 st2 HRF2
        rw [← hpl] at st2 HRF2
        simp only at st1 st2 HRF2
        clear hpl hrC
        go_wp2_with fail
        have hL4 := hs2.lt
        have hWr := bL3.lt
        have c6 : Chg No wr ((w4.alloc (.cells #[.bool true, .slice (some ⟨fs, 0, none⟩) sz sz, .slice (some ⟨ls, 0, none⟩) sz sz] 109)).alloc (.cells #[.int .i64 ((i : Int) - 1)] 3)) := c5.alloc _
        have hstart : BackI w ((w4.alloc (.cells #[.bool true, .slice (some ⟨fs, 0, none⟩) sz sz, .slice (some ⟨ls, 0, none⟩) sz sz] 109)).alloc (.cells #[.int .i64 ((i : Int) - 1)] 3)) base G sz vt vf v3 v4 v5 fb f0 t0 a b g o c (.slice TV i ctv) pl vt' vf' fb' tkC foC w4.heap.size (w4.heap.size + 1) i fs ls := by
          have hdr : (pl.map (·.1)).drop i = [] := List.drop_eq_nil_of_le (by simp [hpll])
          refine ⟨?_, hPs.keep c6 (fun _ _ _ _ => id) (fun _ _ _ _ => id) (fun _ _ _ h => h), bn3.chg c6 id, be3.chg c6 id, bR3.chg c6 id, bL3.chg c6 id, Blk.new' (by simp), fun q hq => ?_, by omega⟩
          · rw [hdr]
            exact ⟨hGr.after c6 (fun _ _ => id) (fun _ e => e.elim), ⟨(hs1.chg a5 id).chg ((Chg.refl No _).alloc _) id, (hs2.chg a5 id).chg ((Chg.refl No _).alloc _) id, fun e => by have := hGr.net.fb_lt fs e; omega, fun e => by have := hGr.net.fb_lt ls e; omega⟩, by omega, by omega, by omega, bO5.alloc _⟩
          · have := (hPs.own hq).2
            have := c4.size
            omega
        clear hs1 hs2 bO5 bL5 l5 y0 l0 hG3 a5 c5 c6 bn3 be3 bR3 bL3 hPs hGr
        by_cases hb : b < 0
        · have hi1 : 1 ≤ i := by
            have := HCC.out
            unfold copiesP at this
            rw [if_pos hb] at this
            omega
          obtain ⟨m0, hm0⟩ : ∃ m0, i = m0 + 1 := ⟨i - 1, by omega⟩
          generalize hWs : ((w4.alloc (.cells #[.bool true, .slice (some ⟨fs, 0, none⟩) sz sz, .slice (some ⟨ls, 0, none⟩) sz sz] 109)).alloc (.cells #[.int .i64 ((i : Int) - 1)] 3)) = ws at hstart ⊢
          clear hWs
          refine loop_unroll (fun _ _ _ h => h) (fun _ _ _ h => h) (fun _ _ h => h) ?_
          have hdr : (pl.map (·.1)).drop i = [] := List.drop_eq_nil_of_le (by simp [hpll])
          obtain ⟨H1, H2, H3, H4, H5, H6, H7, H8, H9⟩ := hstart
          rw [hdr] at H1
          have y0 := H3.cell 0
          have e4 := H4.cell 4
          have l0 := H6.cell 0
          have i0 := H7.cell 0
          simp only [List.getElem?_toArray, List.getElem?_cons_zero, List.getElem?_cons_succ] at y0 e4 l0 i0
          rw [show ((i : Int) - 1) = (m0 : Int) by omega] at i0
          have hml : m0 < pl.length := by omega
          have hmi : m0 < i := by omega
          have hne : ((m0 : Int) == (i : Int) - 1) = true := by simp; omega
          have HM := Lib.hid hm0
          clear hm0
          obtain ⟨gr, capr, curr, hvl, hcapr, hbr, hblr, hcellr⟩ := ownsRow_cell H2.row (by intro e; have := (partCells_get sz pl m0 pl[m0] (List.getElem?_eq_getElem hml)).1; rw [e] at this; simp at this)
          rw [hpll] at hvl
          injection hvl with hv1 hv2 hv3
          subst hv1 hv3
          obtain ⟨c1_, c2_, c3_⟩ := partCells_get sz pl m0 pl[m0] (List.getElem?_eq_getElem hml)
          have d1 := hcellr _ _ c1_
          have d2 := hcellr _ _ c2_
          have d3 := hcellr _ _ c3_
          have hpart := H2.parts pl[m0] (List.getElem_mem hml)
          unfold setV at d2 d3
          generalize hpm : pl[m0] = pm at d1 d2 d3 hpart
          obtain ⟨p, f2, l2⟩ := pm
          simp only at d1 d2 d3 hpart
          have hpok := st2 p (by have : p = (pl.map (·.1))[m0]'(by simpa using hml) := by simp [hpm]
                                 rw [this]; exact List.getElem_mem _)
          have hokL : ∀ q, p.L.testBit q = true → q < foC.length := fun q hq => by
            have h1 := st1.len
            have h3 : q < tkC.length := Nat.lt_of_not_le fun h => by rw [testBit_zero_of_lt hpok.L h] at hq; cases hq
            simp only at h1
            omega
          have hb0 : backP a b i [] foC = (foC, ⟨true, 0, 0⟩) := rfl
          rw [hb0] at H1
          simp only at H1
          have hnet := H1.grow.net
          have hDs := H1.grow.deb hn HD.out hg
          go_wp2_with fail
          refine (wpIn_wide (n := 6)).1 ?_
          have hbase2 := hn.base_le (.inl rfl)
          have hzw := H1.grow.chg.size
          refine' each_law (n := 4) hz rfl hpart.L hDs (by have := hn.blk.lt; omega) rfl (CatI ws sz p.F fb' foC) (CatI.own ws sz p.F fb' foC _)
            ⟨Chg.refl _ _, fun q0 g0 k0 hp0 hk0 => hnet.sets q0 g0 k0 hp0 hk0⟩ _ ?assign ?body ?done
          case assign =>
            intro l x W K hK
            gi_wp2
            exact hK
          case body =>
            rintro lr pre x W ⟨hI1, hI2⟩ hsx
            have hltx := hokL x.1 x.2
            have hlen := hnet.len
            simp only at hlen
            obtain ⟨gf, cap, cur, hvf, hcap, hbase, hbf, hcell⟩ := ownsRow_cell hnet.fo (by intro e; have := congrArg List.length e; simp at this; rw [this] at hlen; simp at hlen; omega)
            subst hvf
            have yn := (H3.chg hI1 (hnet.not_fb H3 (by decide))).cell 0
            have yG := (hnet.blk.chg hI1 (hnet.not_fb hnet.blk (by decide))).cell 2
            have yl := (H6.chg hI1 (hnet.not_fb H6 (by decide))).cell 0
            have yi := (H7.chg hI1 (hnet.not_fb H7 (by decide))).cell 0
            have yd := ((hblr.chg hI1 (hnet.not_fb hblr (by decide))).cell (m0 * 3 + 1)).trans ((hblr.cell (m0 * 3 + 1)).symm.trans d2)
            have hp1 : x.1 < fb'.length := by omega
            have yf : W.cell? ⟨gf, x.1, none⟩ = some (setV sz fb'[x.1]) := by
              have h1 := hcell x.1 (setV sz fb'[x.1]) (by rw [List.getElem?_map, List.getElem?_eq_getElem hp1]; rfl)
              have h2 := (hbf.chg hI1 (hnet.not_fb hbf (by decide))).cell x.1
              rw [hbf.cell] at h1
              exact h2.trans h1
            unfold setV at yf
            simp only [List.getElem?_toArray, List.getElem?_cons_zero, List.getElem?_cons_succ] at yn yG yl yi
            rw [show ((i : Int) - 1) = (m0 : Int) by have := HM.out; omega] at yi
            have hxl : x.1 < foC.length := hltx
            have hmx : Tryd.prog.follows .mixedOrders = true := by kernel_rfl
            obtain ⟨q, hq⟩ : ∃ q, (linkL p.F (pre.map (·.1)) foC)[x.1]? = some q := ⟨_, List.getElem?_eq_getElem (by rw [linkL_length]; exact hltx)⟩
            have hs1 := hI2 x.1 _ _ (List.getElem?_eq_getElem hp1) hq
            have hs2 := hpart.F.chg hI1 hpart.nF
            have hnx : f2 ≠ fb'[x.1] := fun e => hpart.nF (e ▸ List.getElem_mem hp1)
            have hj := join_any fb'[x.1] f2 sz q p.F W.drew hz hs1 hs2 hnx
            gi_wp2
            refine region_round 12 hmx (by kernel_rfl) (by kernel_rfl) (fun ⟨_, _, h⟩ => h) ?_
            simp only [List.take_succ_cons, List.take_zero, List.drop_succ_cons, List.drop_zero]
            repeat still_step
            try refine wpStill_nil ?_
            go_wp2_with fail
            refine hj.mono ?_
            rintro e w' ⟨⟨_, rfl⟩, hj1, hj2⟩
            go_wp2
            exact catI_round hnet rfl hp1 hpart.nL hg hI1 hI2 hsx hq hs1 hj1 (((Chg.refl (One fb'[x.1]) W).drew).trans hj2)
          case done =>
            rintro D xs W hDl hxs ⟨hI1, hI2⟩ hD
            rw [hxs, linkL_each hpart.L.2] at hI2
            go_wp2_with fail
            have GW := H1.grow.trans ⟨hnet.chg hI1 _ (linkP_length p.L p.F foC 0) hI2, hI1.mono (fun k _ e => .inr (.inr (.inr e))), fun k hk => .inl hk⟩
            have z3 := H3.chg hI1 (hnet.not_fb H3 (by decide))
            have z4 := H4.chg hI1 (hnet.not_fb H4 (by decide))
            have z5 := H5.chg hI1 (hnet.not_fb H5 (by decide))
            have z6 := H6.chg hI1 (hnet.not_fb H6 (by decide))
            have z7 := H7.chg hI1 (hnet.not_fb H7 (by decide))
            have zO := H1.blk.chg hI1 (hnet.not_fb H1.blk (by decide))
            have zr := hblr.chg hI1 (hnet.not_fb hblr (by decide))
            have zpts : PartsAt W (w.heap.size + 4) sz fb' (.slice (some ⟨gr, 0, none⟩) i ctv) pl := H2.keep hI1 (fun k cs _ hb => hnet.not_fb hb (by decide)) (fun _ _ _ h => h) (fun _ _ _ h => h)
            have hDlt : D < W.heap.size := by
              rcases Nat.lt_or_ge D W.heap.size with q | q
              · exact q
              · rw [Array.getElem?_eq_none q] at hD; cases hD
            have hDws : w4.heap.size < D := by have := H1.blk.lt; omega
            clear y0 e4 l0 i0
            have y0 := z3.cell 0
            have e3 := z4.cell 3
            have l0 := z6.cell 0
            have i0 := z7.cell 0
            obtain ⟨o0, o1, o2, o3, _⟩ := part_cells zO
            simp only [List.getElem?_toArray, List.getElem?_cons_zero, List.getElem?_cons_succ] at y0 e3 l0 i0
            rw [show ((i : Int) - 1) = (m0 : Int) by have := HM.out; omega] at i0
            have dd1 := (zr.cell (m0 * 3)).trans ((hblr.cell (m0 * 3)).symm.trans d1)
            have dd2 := (zr.cell (m0 * 3 + 1)).trans ((hblr.cell (m0 * 3 + 1)).symm.trans d2)
            have dd3 := (zr.cell (m0 * 3 + 2)).trans ((hblr.cell (m0 * 3 + 2)).symm.trans d3)
            have hps : (pl.map (·.1)).drop m0 = [p] := by
              rw [List.drop_eq_getElem_cons (by simpa using hml)]
              rw [show m0 + 1 = i from HM.out.symm, hdr]
              simp [hpm]
            have hbk : backP a b m0 ((pl.map (·.1)).drop m0) foC = (linkP p.L 0 0 (linkP p.L p.F 0 foC), ⟨(p.e && true) || decide (a ≤ (m0 : Int)), (outP p ⟨true, 0, 0⟩).F, (outP p ⟨true, 0, 0⟩).L⟩) := by
              rw [hps]
              show backStep a b true m0 p (foC, ⟨true, 0, 0⟩) = _
              unfold backStep
              rw [if_pos ⟨hb, rfl⟩]
            have hokL2 : ∀ q, p.L.testBit q = true → q < (linkP p.L p.F 0 foC).length := fun q hq => by rw [linkP_length]; exact hokL q hq
            have hcat := cat_any base G sz ⟨tkC, linkP p.L p.F 0 foC⟩ vt' vf' v3 v4 v5 fb' W.drew p ⟨true, 0, 0⟩ f2 l2 fs ls hz (GW.net.keepNo (Chg.refl No W).drew) ⟨(hpart.F.chg hI1 hpart.nF).chg (Chg.refl No W).drew id, (hpart.L.chg hI1 hpart.nL).chg (Chg.refl No W).drew id, hpart.nF, hpart.nL⟩ ⟨(H1.part.F.chg hI1 H1.part.nF).chg (Chg.refl No W).drew id, (H1.part.L.chg hI1 H1.part.nL).chg (Chg.refl No W).drew id, H1.part.nF, H1.part.nL⟩ ((GW.deb hn HD.out hg).chg (Chg.refl No W).drew id) hg hokL2
            unfold partV at hcat
            have HBK := Lib.hid hbk
            clear hbk hps
            go_still_tail 6, (by kernel_rfl)
            go_wp2_with fail
            refine hcat.mono ?_
            rintro e w6 ⟨f6, l6, rfl, hf6, hl6, hfl6, s6, t6, n6, c6⟩
            clear hcat hokL hokL2 o0 o1 o2 o3 d1 d2 d3 dd1 dd2 dd3 c1_ c2_ c3_ hcellr y0 e3 l0 i0
            have nD := GW.net.keepNo (Chg.refl No W).drew
            have bO6 := zO.drew.chg c6 (nD.not_fb zO.drew (by decide))
            have bn6 := z3.drew.chg c6 (nD.not_fb z3.drew (by decide))
            have be6 := z4.drew.chg c6 (nD.not_fb z4.drew (by decide))
            have bR6 := z5.drew.chg c6 (nD.not_fb z5.drew (by decide))
            have bL6 := z6.drew.chg c6 (nD.not_fb z6.drew (by decide))
            have bi6 := z7.drew.chg c6 (nD.not_fb z7.drew (by decide))
            have hD6 : w6.heap[D]? = some (.deferred (some [])) := (c6.block D hDlt fun e => by
              obtain ⟨cs, hbb⟩ := GW.net.fb_set e
              exact hbb.not_deferred hD rfl).trans hD
            obtain ⟨o0, o1, o2, o3, o4, o5⟩ := part_cells bO6
            have e3 := be6.cell 3
            have i0 := bi6.cell 0
            simp only [List.getElem?_toArray, List.getElem?_cons_zero, List.getElem?_cons_succ] at e3 i0
            rw [show ((i : Int) - 1) = (m0 : Int) by have := HM.out; omega] at i0
            have m1 : ¬ w4.heap.size + 1 = w4.heap.size := by omega
            have m2 : ¬ w.heap.size + 1 = w4.heap.size := by omega
            have HOE : Hid ((outP p ⟨true, 0, 0⟩).e = (p.e && true)) := Lib.hid rfl
            obtain ⟨oe, hoe⟩ : ∃ q, (outP p ⟨true, 0, 0⟩).e = q := ⟨_, rfl⟩
            rw [hoe] at HOE ⊢
            clear hoe
            have cD : Chg No W W.drew := (Chg.refl No W).drew
            have pts6 : PartsAt w6 (w.heap.size + 4) sz fb' (.slice (some ⟨gr, 0, none⟩) i ctv) pl := zpts.keep (cD.then_' c6) (fun k cs _ hb => nD.not_fb hb.drew (by decide)) (fun _ _ _ h => h) (fun _ _ _ h => h)
            have G6 := ((GW.after cD (fun _ _ => id) (fun _ e => e.elim)).trans ⟨n6, c6.mono (fun k _ e => .inr (.inr (.inr e))), fun k hk => .inl hk⟩)
            have nf6 : f6 ∉ fb' := fun e => by have := nD.fb_lt f6 e; omega
            have nl6 : l6 ∉ fb' := fun e => by have := nD.fb_lt l6 e; omega
            have hzr := GW.chg.size
            have hf6' : W.heap.size ≤ f6 := hf6
            have hl6' : W.heap.size ≤ l6 := hl6
            have hD7 : ∀ x y z u : Value, (((((w6.setCell ⟨w4.heap.size, 0, none⟩ x).setCell ⟨w4.heap.size, 1, none⟩ y).setCell ⟨w4.heap.size, 2, none⟩ z).setCell ⟨w4.heap.size, 0, none⟩ u).alloc (.cells #[.int .i64 ((m0 : Int) - 1)] 3)).heap[D]? = some (.deferred (some [])) := fun x y z u =>
              (((Chg.setCell (S := One w4.heap.size) (Chg.setCell (S := One w4.heap.size) (Chg.setCell (S := One w4.heap.size) (Chg.setCell (S := One w4.heap.size) (Chg.refl (One w4.heap.size) w6) (p := ⟨w4.heap.size, 0, none⟩) _ fun _ => rfl) (p := ⟨w4.heap.size, 1, none⟩) _ fun _ => rfl) (p := ⟨w4.heap.size, 2, none⟩) _ fun _ => rfl) (p := ⟨w4.heap.size, 0, none⟩) _ fun _ => rfl).alloc _).heap hD6 fun e => by
                have e' : D = w4.heap.size := e
                omega)
            have cO : ∀ x y z u : Value, Chg (One w4.heap.size) w6 ((((w6.setCell ⟨w4.heap.size, 0, none⟩ x).setCell ⟨w4.heap.size, 1, none⟩ y).setCell ⟨w4.heap.size, 2, none⟩ z).setCell ⟨w4.heap.size, 0, none⟩ u) := fun x y z u =>
              Chg.setCell (S := One w4.heap.size) (Chg.setCell (S := One w4.heap.size) (Chg.setCell (S := One w4.heap.size) (Chg.setCell (S := One w4.heap.size) (Chg.refl (One w4.heap.size) w6) (p := ⟨w4.heap.size, 0, none⟩) _ fun _ => rfl) (p := ⟨w4.heap.size, 1, none⟩) _ fun _ => rfl) (p := ⟨w4.heap.size, 2, none⟩) _ fun _ => rfl) (p := ⟨w4.heap.size, 0, none⟩) _ fun _ => rfl
            cases oe
            · go_wp2_with fail
              have hnext := back_next (E := decide (a ≤ (m0 : Int))) m0 w6.heap.size (by simp [World.setCell]) (by rw [HBK.out, ← HOE.out, Bool.false_or]) G6 pts6 bn6 be6 bR6 bL6 H8 H9 bO6 s6 t6 nf6 nl6 hfl6 (by omega) (by omega) (cO (.bool false) (.slice (some ⟨f6, 0, none⟩) sz sz) (.slice (some ⟨l6, 0, none⟩) sz sz) (.bool (decide (a ≤ (m0 : Int))))) ((((bO6.set_ 0 (.bool false)).set_ 1 (.slice (some ⟨f6, 0, none⟩) sz sz)).set_ 2 (.slice (some ⟨l6, 0, none⟩) sz sz)).set_ 0 (.bool (decide (a ≤ (m0 : Int)))))
              have hDn := hD7 (.bool false) (.slice (some ⟨f6, 0, none⟩) sz sz) (.slice (some ⟨l6, 0, none⟩) sz sz) (.bool (decide (a ≤ (m0 : Int))))
              clear hD7 hD6 cO hDlt hD m1 m2 HOE HBK G6 pts6 bn6 be6 bR6 bL6 bi6 bO6 o0 o1 o2 o3 o4 o5 e3 i0 nD z3 z4 z5 z6 z7 zO zr zpts GW H1 H2 H3 H4 H5 H6 H7 hnet hDs hpart hpok n6 c6 hI1 hI2 hne hmi hdr nf6 nl6 hf6' hl6' hzr hf6 hl6 hblr
              go_loopg [7] m0 (fun k v7 wr => k ≤ m0 ∧ wr.heap[D]? = some (.deferred (some [])) ∧ ∃ ib f l, v7 = .pointer (some ⟨ib, 0, none⟩) ∧ BackI w wr base G sz vt vf v3 v4 v5 fb f0 t0 a b g o c (.slice (some ⟨gr, 0, none⟩) i ctv) pl vt' vf' fb' tkC foC w4.heap.size ib k f l)
              case atStart => exact ⟨Nat.le_refl _, hDn, _, f6, l6, rfl, hnext⟩
              case round =>
                obtain ⟨hk, hDr, ib, f, l, rfl, hI⟩ := hrel
                have y0 := hI.bn.cell 0
                have e3 := hI.be.cell 3
                have e4 := hI.be.cell 4
                have l0 := hI.bL.cell 0
                have i0 := hI.bi.cell 0
                obtain ⟨o0, o1, o2, o3, _⟩ := part_cells hI.alt.blk
                simp only [List.getElem?_toArray, List.getElem?_cons_zero, List.getElem?_cons_succ] at y0 e3 e4 l0 i0
                cases gk with
                | zero =>
                  rw [show (((0 : Nat) : Int) - 1) = -1 from rfl] at i0
                  obtain ⟨q1, q2, q3, q4, q5, q6⟩ := part_cells hI.bR
                  go_wp2
                  have hbz := ((hI.bR.set_ 0 (.bool (backP a b 0 ((pl.map (·.1)).drop 0) foC).2.e)).set_ 1 (.slice (some ⟨f, 0, none⟩) sz sz)).set_ 2 (.slice (some ⟨l, 0, none⟩) sz sz)
                  have cR : ∀ x y z : Value, Chg (One (w.heap.size + 2)) wr (((wr.setCell ⟨w.heap.size + 2, 0, none⟩ x).setCell ⟨w.heap.size + 2, 1, none⟩ y).setCell ⟨w.heap.size + 2, 2, none⟩ z) := fun x y z =>
                    Chg.setCell (S := One (w.heap.size + 2)) (Chg.setCell (S := One (w.heap.size + 2)) (Chg.setCell (S := One (w.heap.size + 2)) (Chg.refl (One (w.heap.size + 2)) wr) (p := ⟨w.heap.size + 2, 0, none⟩) _ fun _ => rfl) (p := ⟨w.heap.size + 2, 1, none⟩) _ fun _ => rfl) (p := ⟨w.heap.size + 2, 2, none⟩) _ fun _ => rfl
                  have hDz := (cR (.bool (backP a b 0 ((pl.map (·.1)).drop 0) foC).2.e) (.slice (some ⟨f, 0, none⟩) sz sz) (.slice (some ⟨l, 0, none⟩) sz sz)).heap hDr (fun e => by
                    have e' : D = w.heap.size + 2 := e
                    omega)
                  refine leaves_part (k := 6) rfl rfl hDz hbz ?_
                  rw [HRF2.out]
                  exact (add_close _ _ _ hI.alt.grow hI.alt.part hI.alt.hf hI.alt.hl hI.alt.ne hI.bR (by omega)).put hDz (by omega)
                | succ m =>
                  rw [show (((m + 1 : Nat) : Int) - 1) = (m : Int) by omega] at i0
                  have hml : m < pl.length := by omega
                  obtain ⟨gr2, capr, curr, hvl, hcapr, hbr, hblr, hcellr⟩ := ownsRow_cell hI.pts.row (by intro e; have := (partCells_get sz pl m pl[m] (List.getElem?_eq_getElem hml)).1; rw [e] at this; simp at this)
                  obtain rfl : gr = gr2 := by
                    injection hvl with h1
                    injection h1 with h1
                    injection h1
                  obtain ⟨c1_, c2_, c3_⟩ := partCells_get sz pl m pl[m] (List.getElem?_eq_getElem hml)
                  have d1 := hcellr _ _ c1_
                  have d2 := hcellr _ _ c2_
                  have d3 := hcellr _ _ c3_
                  have hmi : m < i := by omega
                  have hne : ((m : Int) == (i : Int) - 1) = false := by simp; omega
                  have hpart := hI.pts.parts pl[m] (List.getElem_mem hml)
                  unfold setV at d2 d3
                  generalize hpm : pl[m] = pm at d1 d2 d3 hpart
                  obtain ⟨p, f2, l2⟩ := pm
                  simp only at d1 d2 d3 hpart
                  have hps : (pl.map (·.1)).drop m = p :: (pl.map (·.1)).drop (m + 1) := by
                    rw [List.drop_eq_getElem_cons (by simpa using hml)]
                    simp [hpm]
                  have hbk : backP a b m ((pl.map (·.1)).drop m) foC = backStep a b ((pl.map (·.1)).drop (m + 1)).isEmpty m p (backP a b (m + 1) ((pl.map (·.1)).drop (m + 1)) foC) := by rw [hps]; rfl
                  have hbo := backP_ok (N := tkC.length) a b ((pl.map (·.1)).drop (m + 1)) (m + 1) foC (fun q hq => st2 q (List.mem_of_mem_drop hq)) st1.fo
                  have hst0 : backStep a b ((pl.map (·.1)).drop (m + 1)).isEmpty m p (backP a b (m + 1) ((pl.map (·.1)).drop (m + 1)) foC) = (linkP p.L (backP a b (m + 1) ((pl.map (·.1)).drop (m + 1)) foC).2.F 0 (backP a b (m + 1) ((pl.map (·.1)).drop (m + 1)) foC).1, ⟨(p.e && (backP a b (m + 1) ((pl.map (·.1)).drop (m + 1)) foC).2.e) || decide (a ≤ (m : Int)), (outP p (backP a b (m + 1) ((pl.map (·.1)).drop (m + 1)) foC).2).F, (outP p (backP a b (m + 1) ((pl.map (·.1)).drop (m + 1)) foC).2).L⟩) := by
                    unfold backStep
                    rw [if_neg (fun h => by have h2 := h.2; simp at h2; omega)]
                  rw [hst0] at hbk
                  obtain ⟨H1, H2, H3, H4, H5, H6, H7, H8, H9⟩ := hI
                  obtain ⟨⟨fok, ok⟩, hRk⟩ : ∃ r, backP a b (m + 1) ((pl.map (·.1)).drop (m + 1)) foC = r := ⟨_, rfl⟩
                  rw [hRk] at hbo hbk H1
                  simp only at hbo hbk H1
                  have hpok := st2 p (by have : p = (pl.map (·.1))[m]'(by simpa using hml) := by simp [hpm]
                                         rw [this]; exact List.getElem_mem _)
                  have hokL : ∀ q, p.L.testBit q = true → q < fok.length := fun q hq => by
                    have h1 := st1.len
                    have h2 := hbo.2.2
                    have h3 : q < tkC.length := Nat.lt_of_not_le fun h => by rw [testBit_zero_of_lt hpok.L h] at hq; cases hq
                    simp only at h1
                    omega
                  have hcat := cat_any base G sz ⟨tkC, fok⟩ vt' vf' v3 v4 v5 fb' wr.drew p ok f2 l2 f l hz (H1.grow.net.keepNo (Chg.refl No wr).drew) ⟨hpart.F.chg (Chg.refl No wr).drew id, hpart.L.chg (Chg.refl No wr).drew id, hpart.nF, hpart.nL⟩ ⟨H1.part.F.chg (Chg.refl No wr).drew id, H1.part.L.chg (Chg.refl No wr).drew id, H1.part.nF, H1.part.nL⟩ ((H1.grow.deb hn HD.out hg).chg (Chg.refl No wr).drew id) hg hokL
                  unfold partV at hcat
                  have HBK := Lib.hid hbk
                  rw [hRk] at o0
                  simp only at o0
                  clear hbk hst0 hRk hps hbo
                  go_wp2_with fail
                  go_still_tail 6, (by kernel_rfl)
                  go_wp2_with fail
                  refine hcat.mono ?_
                  rintro e w6 ⟨f6, l6, rfl, hf6, hl6, hfl6, s6, t6, n6, c6⟩
                  clear hcat hokL o0 o1 o2 o3 d1 d2 d3 c1_ c2_ c3_ hcellr y0 e3 e4 l0 i0
                  have nD := H1.grow.net.keepNo (Chg.refl No wr).drew
                  have bO6 := H1.blk.drew.chg c6 (nD.not_fb H1.blk.drew (by decide))
                  have bn6 := H3.drew.chg c6 (nD.not_fb H3.drew (by decide))
                  have be6 := H4.drew.chg c6 (nD.not_fb H4.drew (by decide))
                  have bR6 := H5.drew.chg c6 (nD.not_fb H5.drew (by decide))
                  have bL6 := H6.drew.chg c6 (nD.not_fb H6.drew (by decide))
                  have bi6 := H7.drew.chg c6 (nD.not_fb H7.drew (by decide))
                  have hD6 : w6.heap[D]? = some (.deferred (some [])) := (c6.block D (by
                    rcases Nat.lt_or_ge D wr.heap.size with q | q
                    · exact q
                    · rw [Array.getElem?_eq_none q] at hDr; cases hDr) fun e => by
                    obtain ⟨cs, hbb⟩ := H1.grow.net.fb_set e
                    exact hbb.not_deferred hDr rfl).trans hDr
                  have hD7 : ∀ x y z u : Value, (((((w6.setCell ⟨w4.heap.size, 0, none⟩ x).setCell ⟨w4.heap.size, 1, none⟩ y).setCell ⟨w4.heap.size, 2, none⟩ z).setCell ⟨w4.heap.size, 0, none⟩ u).alloc (.cells #[.int .i64 ((m : Int) - 1)] 3)).heap[D]? = some (.deferred (some [])) := fun x y z u =>
                    (((Chg.setCell (S := One w4.heap.size) (Chg.setCell (S := One w4.heap.size) (Chg.setCell (S := One w4.heap.size) (Chg.setCell (S := One w4.heap.size) (Chg.refl (One w4.heap.size) w6) (p := ⟨w4.heap.size, 0, none⟩) _ fun _ => rfl) (p := ⟨w4.heap.size, 1, none⟩) _ fun _ => rfl) (p := ⟨w4.heap.size, 2, none⟩) _ fun _ => rfl) (p := ⟨w4.heap.size, 0, none⟩) _ fun _ => rfl).alloc _).heap hD6 fun e => by
                      have e' : D = w4.heap.size := e
                      omega)
                  obtain ⟨o0, o1, o2, o3, o4, o5⟩ := part_cells bO6
                  have e3 := be6.cell 3
                  have i0 := bi6.cell 0
                  simp only [List.getElem?_toArray, List.getElem?_cons_zero, List.getElem?_cons_succ] at e3 i0
                  rw [show (((m + 1 : Nat) : Int) - 1) = (m : Int) by omega] at i0
                  have m1 : ¬ ib = w4.heap.size := bi6.ne_ bO6 (by decide)
                  have m2 : ¬ w.heap.size + 1 = w4.heap.size := by omega
                  have HOE : Hid ((outP p ok).e = (p.e && ok.e)) := Lib.hid rfl
                  obtain ⟨oe, hoe⟩ : ∃ q, (outP p ok).e = q := ⟨_, rfl⟩
                  rw [hoe] at HOE ⊢
                  clear hoe
                  have cD : Chg No wr wr.drew := (Chg.refl No wr).drew
                  have pts6 : PartsAt w6 (w.heap.size + 4) sz fb' _ pl := H2.keep (cD.then_' c6) (fun k cs _ hb => nD.not_fb hb.drew (by decide)) (fun _ _ _ h => h) (fun _ _ _ h => h)
                  have G6 := ((H1.grow.after cD (fun _ _ => id) (fun _ e => e.elim)).trans ⟨n6, c6.mono (fun k _ e => .inr (.inr (.inr e))), fun k hk => .inl hk⟩)
                  have nf6 : f6 ∉ fb' := fun e => by have := nD.fb_lt f6 e; omega
                  have nl6 : l6 ∉ fb' := fun e => by have := nD.fb_lt l6 e; omega
                  have hzr := H1.grow.chg.size
                  have hf6' : wr.heap.size ≤ f6 := hf6
                  have hl6' : wr.heap.size ≤ l6 := hl6
                  have cO : ∀ x y z u : Value, Chg (One w4.heap.size) w6 ((((w6.setCell ⟨w4.heap.size, 0, none⟩ x).setCell ⟨w4.heap.size, 1, none⟩ y).setCell ⟨w4.heap.size, 2, none⟩ z).setCell ⟨w4.heap.size, 0, none⟩ u) := fun x y z u =>
                    Chg.setCell (S := One w4.heap.size) (Chg.setCell (S := One w4.heap.size) (Chg.setCell (S := One w4.heap.size) (Chg.setCell (S := One w4.heap.size) (Chg.refl (One w4.heap.size) w6) (p := ⟨w4.heap.size, 0, none⟩) _ fun _ => rfl) (p := ⟨w4.heap.size, 1, none⟩) _ fun _ => rfl) (p := ⟨w4.heap.size, 2, none⟩) _ fun _ => rfl) (p := ⟨w4.heap.size, 0, none⟩) _ fun _ => rfl
                  cases oe
                  · go_wp2
                    go_roundg m
                    case measure => omega
                    case rel =>
                      refine ⟨by omega, hD7 _ _ _ _, _, f6, l6, rfl, ?_⟩
                      refine back_next (E := decide (a ≤ (m : Int))) m _ (by simp [World.setCell]) ?_ G6 pts6 bn6 be6 bR6 bL6 H8 H9 bO6 s6 t6 nf6 nl6 hfl6 (by omega) (by omega) (cO _ _ _ _) ((((bO6.set_ 0 (.bool false)).set_ 1 (.slice (some ⟨f6, 0, none⟩) sz sz)).set_ 2 (.slice (some ⟨l6, 0, none⟩) sz sz)).set_ 0 (.bool (decide (a ≤ (m : Int)))))
                      rw [HBK.out, ← HOE.out, Bool.false_or]
                  · go_wp2
                    go_roundg m
                    case measure => omega
                    case rel =>
                      refine ⟨by omega, hD7 _ _ _ _, _, f6, l6, rfl, ?_⟩
                      refine back_next (E := true) m _ (by simp [World.setCell]) ?_ G6 pts6 bn6 be6 bR6 bL6 H8 H9 bO6 s6 t6 nf6 nl6 hfl6 (by omega) (by omega) (cO _ _ _ _) ((((bO6.set_ 0 (.bool true)).set_ 1 (.slice (some ⟨f6, 0, none⟩) sz sz)).set_ 2 (.slice (some ⟨l6, 0, none⟩) sz sz)).set_ 0 (.bool true))
                      rw [HBK.out, ← HOE.out, Bool.true_or]
            · go_wp2_with fail
              have hnext := back_next (E := true) m0 w6.heap.size (by simp [World.setCell]) (by rw [HBK.out, ← HOE.out, Bool.true_or]) G6 pts6 bn6 be6 bR6 bL6 H8 H9 bO6 s6 t6 nf6 nl6 hfl6 (by omega) (by omega) (cO (.bool true) (.slice (some ⟨f6, 0, none⟩) sz sz) (.slice (some ⟨l6, 0, none⟩) sz sz) (.bool true)) ((((bO6.set_ 0 (.bool true)).set_ 1 (.slice (some ⟨f6, 0, none⟩) sz sz)).set_ 2 (.slice (some ⟨l6, 0, none⟩) sz sz)).set_ 0 (.bool true))
              have hDn := hD7 (.bool true) (.slice (some ⟨f6, 0, none⟩) sz sz) (.slice (some ⟨l6, 0, none⟩) sz sz) (.bool true)
              clear hD7 hD6 cO hDlt hD m1 m2 HOE HBK G6 pts6 bn6 be6 bR6 bL6 bi6 bO6 o0 o1 o2 o3 o4 o5 e3 i0 nD z3 z4 z5 z6 z7 zO zr zpts GW H1 H2 H3 H4 H5 H6 H7 hnet hDs hpart hpok n6 c6 hI1 hI2 hne hmi hdr nf6 nl6 hf6' hl6' hzr hf6 hl6 hblr
              go_loopg [7] m0 (fun k v7 wr => k ≤ m0 ∧ wr.heap[D]? = some (.deferred (some [])) ∧ ∃ ib f l, v7 = .pointer (some ⟨ib, 0, none⟩) ∧ BackI w wr base G sz vt vf v3 v4 v5 fb f0 t0 a b g o c (.slice (some ⟨gr, 0, none⟩) i ctv) pl vt' vf' fb' tkC foC w4.heap.size ib k f l)
              case atStart => exact ⟨Nat.le_refl _, hDn, _, f6, l6, rfl, hnext⟩
              case round =>
                obtain ⟨hk, hDr, ib, f, l, rfl, hI⟩ := hrel
                have y0 := hI.bn.cell 0
                have e3 := hI.be.cell 3
                have e4 := hI.be.cell 4
                have l0 := hI.bL.cell 0
                have i0 := hI.bi.cell 0
                obtain ⟨o0, o1, o2, o3, _⟩ := part_cells hI.alt.blk
                simp only [List.getElem?_toArray, List.getElem?_cons_zero, List.getElem?_cons_succ] at y0 e3 e4 l0 i0
                cases gk with
                | zero =>
                  rw [show (((0 : Nat) : Int) - 1) = -1 from rfl] at i0
                  obtain ⟨q1, q2, q3, q4, q5, q6⟩ := part_cells hI.bR
                  go_wp2
                  have hbz := ((hI.bR.set_ 0 (.bool (backP a b 0 ((pl.map (·.1)).drop 0) foC).2.e)).set_ 1 (.slice (some ⟨f, 0, none⟩) sz sz)).set_ 2 (.slice (some ⟨l, 0, none⟩) sz sz)
                  have cR : ∀ x y z : Value, Chg (One (w.heap.size + 2)) wr (((wr.setCell ⟨w.heap.size + 2, 0, none⟩ x).setCell ⟨w.heap.size + 2, 1, none⟩ y).setCell ⟨w.heap.size + 2, 2, none⟩ z) := fun x y z =>
                    Chg.setCell (S := One (w.heap.size + 2)) (Chg.setCell (S := One (w.heap.size + 2)) (Chg.setCell (S := One (w.heap.size + 2)) (Chg.refl (One (w.heap.size + 2)) wr) (p := ⟨w.heap.size + 2, 0, none⟩) _ fun _ => rfl) (p := ⟨w.heap.size + 2, 1, none⟩) _ fun _ => rfl) (p := ⟨w.heap.size + 2, 2, none⟩) _ fun _ => rfl
                  have hDz := (cR (.bool (backP a b 0 ((pl.map (·.1)).drop 0) foC).2.e) (.slice (some ⟨f, 0, none⟩) sz sz) (.slice (some ⟨l, 0, none⟩) sz sz)).heap hDr (fun e => by
                    have e' : D = w.heap.size + 2 := e
                    omega)
                  refine leaves_part (k := 6) rfl rfl hDz hbz ?_
                  rw [HRF2.out]
                  exact (add_close _ _ _ hI.alt.grow hI.alt.part hI.alt.hf hI.alt.hl hI.alt.ne hI.bR (by omega)).put hDz (by omega)
                | succ m =>
                  rw [show (((m + 1 : Nat) : Int) - 1) = (m : Int) by omega] at i0
                  have hml : m < pl.length := by omega
                  obtain ⟨gr2, capr, curr, hvl, hcapr, hbr, hblr, hcellr⟩ := ownsRow_cell hI.pts.row (by intro e; have := (partCells_get sz pl m pl[m] (List.getElem?_eq_getElem hml)).1; rw [e] at this; simp at this)
                  obtain rfl : gr = gr2 := by
                    injection hvl with h1
                    injection h1 with h1
                    injection h1
                  obtain ⟨c1_, c2_, c3_⟩ := partCells_get sz pl m pl[m] (List.getElem?_eq_getElem hml)
                  have d1 := hcellr _ _ c1_
                  have d2 := hcellr _ _ c2_
                  have d3 := hcellr _ _ c3_
                  have hmi : m < i := by omega
                  have hne : ((m : Int) == (i : Int) - 1) = false := by simp; omega
                  have hpart := hI.pts.parts pl[m] (List.getElem_mem hml)
                  unfold setV at d2 d3
                  generalize hpm : pl[m] = pm at d1 d2 d3 hpart
                  obtain ⟨p, f2, l2⟩ := pm
                  simp only at d1 d2 d3 hpart
                  have hps : (pl.map (·.1)).drop m = p :: (pl.map (·.1)).drop (m + 1) := by
                    rw [List.drop_eq_getElem_cons (by simpa using hml)]
                    simp [hpm]
                  have hbk : backP a b m ((pl.map (·.1)).drop m) foC = backStep a b ((pl.map (·.1)).drop (m + 1)).isEmpty m p (backP a b (m + 1) ((pl.map (·.1)).drop (m + 1)) foC) := by rw [hps]; rfl
                  have hbo := backP_ok (N := tkC.length) a b ((pl.map (·.1)).drop (m + 1)) (m + 1) foC (fun q hq => st2 q (List.mem_of_mem_drop hq)) st1.fo
                  have hst0 : backStep a b ((pl.map (·.1)).drop (m + 1)).isEmpty m p (backP a b (m + 1) ((pl.map (·.1)).drop (m + 1)) foC) = (linkP p.L (backP a b (m + 1) ((pl.map (·.1)).drop (m + 1)) foC).2.F 0 (backP a b (m + 1) ((pl.map (·.1)).drop (m + 1)) foC).1, ⟨(p.e && (backP a b (m + 1) ((pl.map (·.1)).drop (m + 1)) foC).2.e) || decide (a ≤ (m : Int)), (outP p (backP a b (m + 1) ((pl.map (·.1)).drop (m + 1)) foC).2).F, (outP p (backP a b (m + 1) ((pl.map (·.1)).drop (m + 1)) foC).2).L⟩) := by
                    unfold backStep
                    rw [if_neg (fun h => by have h2 := h.2; simp at h2; omega)]
                  rw [hst0] at hbk
                  obtain ⟨H1, H2, H3, H4, H5, H6, H7, H8, H9⟩ := hI
                  obtain ⟨⟨fok, ok⟩, hRk⟩ : ∃ r, backP a b (m + 1) ((pl.map (·.1)).drop (m + 1)) foC = r := ⟨_, rfl⟩
                  rw [hRk] at hbo hbk H1
                  simp only at hbo hbk H1
                  have hpok := st2 p (by have : p = (pl.map (·.1))[m]'(by simpa using hml) := by simp [hpm]
                                         rw [this]; exact List.getElem_mem _)
                  have hokL : ∀ q, p.L.testBit q = true → q < fok.length := fun q hq => by
                    have h1 := st1.len
                    have h2 := hbo.2.2
                    have h3 : q < tkC.length := Nat.lt_of_not_le fun h => by rw [testBit_zero_of_lt hpok.L h] at hq; cases hq
                    simp only at h1
                    omega
                  have hcat := cat_any base G sz ⟨tkC, fok⟩ vt' vf' v3 v4 v5 fb' wr.drew p ok f2 l2 f l hz (H1.grow.net.keepNo (Chg.refl No wr).drew) ⟨hpart.F.chg (Chg.refl No wr).drew id, hpart.L.chg (Chg.refl No wr).drew id, hpart.nF, hpart.nL⟩ ⟨H1.part.F.chg (Chg.refl No wr).drew id, H1.part.L.chg (Chg.refl No wr).drew id, H1.part.nF, H1.part.nL⟩ ((H1.grow.deb hn HD.out hg).chg (Chg.refl No wr).drew id) hg hokL
                  unfold partV at hcat
                  have HBK := Lib.hid hbk
                  rw [hRk] at o0
                  simp only at o0
                  clear hbk hst0 hRk hps hbo
                  go_wp2_with fail
                  go_still_tail 6, (by kernel_rfl)
                  go_wp2_with fail
                  refine hcat.mono ?_
                  rintro e w6 ⟨f6, l6, rfl, hf6, hl6, hfl6, s6, t6, n6, c6⟩
                  clear hcat hokL o0 o1 o2 o3 d1 d2 d3 c1_ c2_ c3_ hcellr y0 e3 e4 l0 i0
                  have nD := H1.grow.net.keepNo (Chg.refl No wr).drew
                  have bO6 := H1.blk.drew.chg c6 (nD.not_fb H1.blk.drew (by decide))
                  have bn6 := H3.drew.chg c6 (nD.not_fb H3.drew (by decide))
                  have be6 := H4.drew.chg c6 (nD.not_fb H4.drew (by decide))
                  have bR6 := H5.drew.chg c6 (nD.not_fb H5.drew (by decide))
                  have bL6 := H6.drew.chg c6 (nD.not_fb H6.drew (by decide))
                  have bi6 := H7.drew.chg c6 (nD.not_fb H7.drew (by decide))
                  have hD6 : w6.heap[D]? = some (.deferred (some [])) := (c6.block D (by
                    rcases Nat.lt_or_ge D wr.heap.size with q | q
                    · exact q
                    · rw [Array.getElem?_eq_none q] at hDr; cases hDr) fun e => by
                    obtain ⟨cs, hbb⟩ := H1.grow.net.fb_set e
                    exact hbb.not_deferred hDr rfl).trans hDr
                  have hD7 : ∀ x y z u : Value, (((((w6.setCell ⟨w4.heap.size, 0, none⟩ x).setCell ⟨w4.heap.size, 1, none⟩ y).setCell ⟨w4.heap.size, 2, none⟩ z).setCell ⟨w4.heap.size, 0, none⟩ u).alloc (.cells #[.int .i64 ((m : Int) - 1)] 3)).heap[D]? = some (.deferred (some [])) := fun x y z u =>
                    (((Chg.setCell (S := One w4.heap.size) (Chg.setCell (S := One w4.heap.size) (Chg.setCell (S := One w4.heap.size) (Chg.setCell (S := One w4.heap.size) (Chg.refl (One w4.heap.size) w6) (p := ⟨w4.heap.size, 0, none⟩) _ fun _ => rfl) (p := ⟨w4.heap.size, 1, none⟩) _ fun _ => rfl) (p := ⟨w4.heap.size, 2, none⟩) _ fun _ => rfl) (p := ⟨w4.heap.size, 0, none⟩) _ fun _ => rfl).alloc _).heap hD6 fun e => by
                      have e' : D = w4.heap.size := e
                      omega)
                  obtain ⟨o0, o1, o2, o3, o4, o5⟩ := part_cells bO6
                  have e3 := be6.cell 3
                  have i0 := bi6.cell 0
                  simp only [List.getElem?_toArray, List.getElem?_cons_zero, List.getElem?_cons_succ] at e3 i0
                  rw [show (((m + 1 : Nat) : Int) - 1) = (m : Int) by omega] at i0
                  have m1 : ¬ ib = w4.heap.size := bi6.ne_ bO6 (by decide)
                  have m2 : ¬ w.heap.size + 1 = w4.heap.size := by omega
                  have HOE : Hid ((outP p ok).e = (p.e && ok.e)) := Lib.hid rfl
                  obtain ⟨oe, hoe⟩ : ∃ q, (outP p ok).e = q := ⟨_, rfl⟩
                  rw [hoe] at HOE ⊢
                  clear hoe
                  have cD : Chg No wr wr.drew := (Chg.refl No wr).drew
                  have pts6 : PartsAt w6 (w.heap.size + 4) sz fb' _ pl := H2.keep (cD.then_' c6) (fun k cs _ hb => nD.not_fb hb.drew (by decide)) (fun _ _ _ h => h) (fun _ _ _ h => h)
                  have G6 := ((H1.grow.after cD (fun _ _ => id) (fun _ e => e.elim)).trans ⟨n6, c6.mono (fun k _ e => .inr (.inr (.inr e))), fun k hk => .inl hk⟩)
                  have nf6 : f6 ∉ fb' := fun e => by have := nD.fb_lt f6 e; omega
                  have nl6 : l6 ∉ fb' := fun e => by have := nD.fb_lt l6 e; omega
                  have hzr := H1.grow.chg.size
                  have hf6' : wr.heap.size ≤ f6 := hf6
                  have hl6' : wr.heap.size ≤ l6 := hl6
                  have cO : ∀ x y z u : Value, Chg (One w4.heap.size) w6 ((((w6.setCell ⟨w4.heap.size, 0, none⟩ x).setCell ⟨w4.heap.size, 1, none⟩ y).setCell ⟨w4.heap.size, 2, none⟩ z).setCell ⟨w4.heap.size, 0, none⟩ u) := fun x y z u =>
                    Chg.setCell (S := One w4.heap.size) (Chg.setCell (S := One w4.heap.size) (Chg.setCell (S := One w4.heap.size) (Chg.setCell (S := One w4.heap.size) (Chg.refl (One w4.heap.size) w6) (p := ⟨w4.heap.size, 0, none⟩) _ fun _ => rfl) (p := ⟨w4.heap.size, 1, none⟩) _ fun _ => rfl) (p := ⟨w4.heap.size, 2, none⟩) _ fun _ => rfl) (p := ⟨w4.heap.size, 0, none⟩) _ fun _ => rfl
                  cases oe
                  · go_wp2
                    go_roundg m
                    case measure => omega
                    case rel =>
                      refine ⟨by omega, hD7 _ _ _ _, _, f6, l6, rfl, ?_⟩
                      refine back_next (E := decide (a ≤ (m : Int))) m _ (by simp [World.setCell]) ?_ G6 pts6 bn6 be6 bR6 bL6 H8 H9 bO6 s6 t6 nf6 nl6 hfl6 (by omega) (by omega) (cO _ _ _ _) ((((bO6.set_ 0 (.bool false)).set_ 1 (.slice (some ⟨f6, 0, none⟩) sz sz)).set_ 2 (.slice (some ⟨l6, 0, none⟩) sz sz)).set_ 0 (.bool (decide (a ≤ (m : Int)))))
                      rw [HBK.out, ← HOE.out, Bool.false_or]
                  · go_wp2
                    go_roundg m
                    case measure => omega
                    case rel =>
                      refine ⟨by omega, hD7 _ _ _ _, _, f6, l6, rfl, ?_⟩
                      refine back_next (E := true) m _ (by simp [World.setCell]) ?_ G6 pts6 bn6 be6 bR6 bL6 H8 H9 bO6 s6 t6 nf6 nl6 hfl6 (by omega) (by omega) (cO _ _ _ _) ((((bO6.set_ 0 (.bool true)).set_ 1 (.slice (some ⟨f6, 0, none⟩) sz sz)).set_ 2 (.slice (some ⟨l6, 0, none⟩) sz sz)).set_ 0 (.bool true))
                      rw [HBK.out, ← HOE.out, Bool.true_or]
        · go_loopg [7] i (fun k v7 wr => k ≤ i ∧ ∃ ib f l, v7 = .pointer (some ⟨ib, 0, none⟩) ∧ BackI w wr base G sz vt vf v3 v4 v5 fb f0 t0 a b g o c (.slice TV i ctv) pl vt' vf' fb' tkC foC w4.heap.size ib k f l)
          case atStart => exact ⟨Nat.le_refl _, _, fs, ls, rfl, hstart⟩
          case round =>
            obtain ⟨hk, ib, f, l, rfl, hI⟩ := hrel
            have y0 := hI.bn.cell 0
            have e3 := hI.be.cell 3
            have e4 := hI.be.cell 4
            have l0 := hI.bL.cell 0
            have i0 := hI.bi.cell 0
            obtain ⟨o0, o1, o2, o3, _⟩ := part_cells hI.alt.blk
            simp only [List.getElem?_toArray, List.getElem?_cons_zero, List.getElem?_cons_succ] at y0 e3 e4 l0 i0
            cases gk with
            | zero =>
              rw [show (((0 : Nat) : Int) - 1) = -1 from rfl] at i0
              obtain ⟨q1, q2, q3, q4, q5, q6⟩ := part_cells hI.bR
              go_wp2
              have hbz := ((hI.bR.set_ 0 (.bool (backP a b 0 ((pl.map (·.1)).drop 0) foC).2.e)).set_ 1 (.slice (some ⟨f, 0, none⟩) sz sz)).set_ 2 (.slice (some ⟨l, 0, none⟩) sz sz)
              refine bodyPostM_part (k := 6) rfl rfl rfl hbz ?_
              rw [HRF2.out]
              exact add_close _ _ _ hI.alt.grow hI.alt.part hI.alt.hf hI.alt.hl hI.alt.ne hI.bR (by omega)
            | succ m =>
              rw [show (((m + 1 : Nat) : Int) - 1) = (m : Int) by omega] at i0
              have hml : m < pl.length := by omega
              obtain ⟨gr, capr, curr, hvl, hcapr, hbr, hblr, hcellr⟩ := ownsRow_cell hI.pts.row (by intro e; have := (partCells_get sz pl m pl[m] (List.getElem?_eq_getElem hml)).1; rw [e] at this; simp at this)
              rw [hpll] at hvl
              injection hvl with hv1 hv2 hv3
              subst hv1 hv3
              obtain ⟨c1_, c2_, c3_⟩ := partCells_get sz pl m pl[m] (List.getElem?_eq_getElem hml)
              have d1 := hcellr _ _ c1_
              have d2 := hcellr _ _ c2_
              have d3 := hcellr _ _ c3_
              have hmi : m < i := by omega
              have hpart := hI.pts.parts pl[m] (List.getElem_mem hml)
              unfold setV at d2 d3
              generalize hpm : pl[m] = pm at d1 d2 d3 hpart
              obtain ⟨p, f2, l2⟩ := pm
              simp only at d1 d2 d3 hpart
              have hps : (pl.map (·.1)).drop m = p :: (pl.map (·.1)).drop (m + 1) := by
                rw [List.drop_eq_getElem_cons (by simpa using hml)]
                simp [hpm]
              have hbk : backP a b m ((pl.map (·.1)).drop m) foC = backStep a b ((pl.map (·.1)).drop (m + 1)).isEmpty m p (backP a b (m + 1) ((pl.map (·.1)).drop (m + 1)) foC) := by rw [hps]; rfl
              have hbo := backP_ok (N := tkC.length) a b ((pl.map (·.1)).drop (m + 1)) (m + 1) foC (fun q hq => st2 q (List.mem_of_mem_drop hq)) st1.fo
              have hst0 : backStep a b ((pl.map (·.1)).drop (m + 1)).isEmpty m p (backP a b (m + 1) ((pl.map (·.1)).drop (m + 1)) foC) = (linkP p.L (backP a b (m + 1) ((pl.map (·.1)).drop (m + 1)) foC).2.F 0 (backP a b (m + 1) ((pl.map (·.1)).drop (m + 1)) foC).1, ⟨(p.e && (backP a b (m + 1) ((pl.map (·.1)).drop (m + 1)) foC).2.e) || decide (a ≤ (m : Int)), (outP p (backP a b (m + 1) ((pl.map (·.1)).drop (m + 1)) foC).2).F, (outP p (backP a b (m + 1) ((pl.map (·.1)).drop (m + 1)) foC).2).L⟩) := by
                unfold backStep
                rw [if_neg (fun h => hb h.1)]
              rw [hst0] at hbk
              obtain ⟨H1, H2, H3, H4, H5, H6, H7, H8, H9⟩ := hI
              obtain ⟨⟨fok, ok⟩, hRk⟩ : ∃ r, backP a b (m + 1) ((pl.map (·.1)).drop (m + 1)) foC = r := ⟨_, rfl⟩
              rw [hRk] at hbo hbk H1
              simp only at hbo hbk H1
              have hpok := st2 p (by have : p = (pl.map (·.1))[m]'(by simpa using hml) := by simp [hpm]
                                     rw [this]; exact List.getElem_mem _)
              have hokL : ∀ q, p.L.testBit q = true → q < fok.length := fun q hq => by
                have h1 := st1.len
                have h2 := hbo.2.2
                have h3 : q < tkC.length := Nat.lt_of_not_le fun h => by rw [testBit_zero_of_lt hpok.L h] at hq; cases hq
                simp only at h1
                omega
              have hcat := cat_any base G sz ⟨tkC, fok⟩ vt' vf' v3 v4 v5 fb' wr.drew p ok f2 l2 f l hz (H1.grow.net.keepNo (Chg.refl No wr).drew) ⟨hpart.F.chg (Chg.refl No wr).drew id, hpart.L.chg (Chg.refl No wr).drew id, hpart.nF, hpart.nL⟩ ⟨H1.part.F.chg (Chg.refl No wr).drew id, H1.part.L.chg (Chg.refl No wr).drew id, H1.part.nF, H1.part.nL⟩ ((H1.grow.deb hn HD.out hg).chg (Chg.refl No wr).drew id) hg hokL
              unfold partV at hcat
              have HBK := Lib.hid hbk
              rw [hRk] at o0
              simp only at o0
              clear hbk hst0 hRk hps hbo
              go_wp2_with fail
              go_still_tail 6, (by kernel_rfl)
              go_wp2_with fail
              refine hcat.mono ?_
              rintro e w6 ⟨f6, l6, rfl, hf6, hl6, hfl6, s6, t6, n6, c6⟩
              clear hcat hokL o0 o1 o2 o3 d1 d2 d3 c1_ c2_ c3_ hcellr y0 e3 e4 l0 i0
              have nD := H1.grow.net.keepNo (Chg.refl No wr).drew
              have bO6 := H1.blk.drew.chg c6 (nD.not_fb H1.blk.drew (by decide))
              have bn6 := H3.drew.chg c6 (nD.not_fb H3.drew (by decide))
              have be6 := H4.drew.chg c6 (nD.not_fb H4.drew (by decide))
              have bR6 := H5.drew.chg c6 (nD.not_fb H5.drew (by decide))
              have bL6 := H6.drew.chg c6 (nD.not_fb H6.drew (by decide))
              have bi6 := H7.drew.chg c6 (nD.not_fb H7.drew (by decide))
              obtain ⟨o0, o1, o2, o3, o4, o5⟩ := part_cells bO6
              have e3 := be6.cell 3
              have i0 := bi6.cell 0
              simp only [List.getElem?_toArray, List.getElem?_cons_zero, List.getElem?_cons_succ] at e3 i0
              rw [show (((m + 1 : Nat) : Int) - 1) = (m : Int) by omega] at i0
              have m1 : ¬ ib = w4.heap.size := bi6.ne_ bO6 (by decide)
              have m2 : ¬ w.heap.size + 1 = w4.heap.size := by omega
              have HOE : Hid ((outP p ok).e = (p.e && ok.e)) := Lib.hid rfl
              obtain ⟨oe, hoe⟩ : ∃ q, (outP p ok).e = q := ⟨_, rfl⟩
              rw [hoe] at HOE ⊢
              clear hoe
              have cD : Chg No wr wr.drew := (Chg.refl No wr).drew
              have pts6 : PartsAt w6 (w.heap.size + 4) sz fb' _ pl := H2.keep (cD.then_' c6) (fun k cs _ hb => nD.not_fb hb.drew (by decide)) (fun _ _ _ h => h) (fun _ _ _ h => h)
              have G6 := ((H1.grow.after cD (fun _ _ => id) (fun _ e => e.elim)).trans ⟨n6, c6.mono (fun k _ e => .inr (.inr (.inr e))), fun k hk => .inl hk⟩)
              have nf6 : f6 ∉ fb' := fun e => by have := nD.fb_lt f6 e; omega
              have nl6 : l6 ∉ fb' := fun e => by have := nD.fb_lt l6 e; omega
              have hzr := H1.grow.chg.size
              have hf6' : wr.heap.size ≤ f6 := hf6
              have hl6' : wr.heap.size ≤ l6 := hl6
              have cO : ∀ x y z u : Value, Chg (One w4.heap.size) w6 ((((w6.setCell ⟨w4.heap.size, 0, none⟩ x).setCell ⟨w4.heap.size, 1, none⟩ y).setCell ⟨w4.heap.size, 2, none⟩ z).setCell ⟨w4.heap.size, 0, none⟩ u) := fun x y z u =>
                Chg.setCell (S := One w4.heap.size) (Chg.setCell (S := One w4.heap.size) (Chg.setCell (S := One w4.heap.size) (Chg.setCell (S := One w4.heap.size) (Chg.refl (One w4.heap.size) w6) (p := ⟨w4.heap.size, 0, none⟩) _ fun _ => rfl) (p := ⟨w4.heap.size, 1, none⟩) _ fun _ => rfl) (p := ⟨w4.heap.size, 2, none⟩) _ fun _ => rfl) (p := ⟨w4.heap.size, 0, none⟩) _ fun _ => rfl
              cases oe
              · go_wp2
                go_roundg m
                case measure => omega
                case rel =>
                  refine ⟨by omega, _, f6, l6, rfl, ?_⟩
                  refine back_next (E := decide (a ≤ (m : Int))) m _ (by simp [World.setCell]) ?_ G6 pts6 bn6 be6 bR6 bL6 H8 H9 bO6 s6 t6 nf6 nl6 hfl6 (by omega) (by omega) (cO _ _ _ _) ((((bO6.set_ 0 (.bool false)).set_ 1 (.slice (some ⟨f6, 0, none⟩) sz sz)).set_ 2 (.slice (some ⟨l6, 0, none⟩) sz sz)).set_ 0 (.bool (decide (a ≤ (m : Int)))))
                  rw [HBK.out, ← HOE.out, Bool.false_or]
              · go_wp2
                go_roundg m
                case measure => omega
                case rel =>
                  refine ⟨by omega, _, f6, l6, rfl, ?_⟩
                  refine back_next (E := true) m _ (by simp [World.setCell]) ?_ G6 pts6 bn6 be6 bR6 bL6 H8 H9 bO6 s6 t6 nf6 nl6 hfl6 (by omega) (by omega) (cO _ _ _ _) ((((bO6.set_ 0 (.bool true)).set_ 1 (.slice (some ⟨f6, 0, none⟩) sz sz)).set_ 2 (.slice (some ⟨l6, 0, none⟩) sz sz)).set_ 0 (.bool true))
                  rw [HBK.out, ← HOE.out, Bool.true_or]
end Go.Proofs.YticipgjbgcdccaaDoor
