/- The rows' common parts: the listed tables in memory; a list of patterns that is handed in. No condition: lemmas.
   Patterns that are handed in: opened. No condition: lemmas. -/
import Derived.Test.YticipgjbgcdccaaDoorRows
import Derived.Test.YticipgjbgcdccaaDoorZ9
import Derived.Test.YticipgjbgcdccaaDoorZ8
import Derived.Deep.DeepHandedRow
import Derived.Deep.DeepWitnessRowRef
import Derived.ProofKit
import Derived.SizedLaws
import Derived.SliceStrings
import Derived.Lib.LaidIn
import Derived.Lib.LaidU8
import Derived.ReadAgain
import Derived.ChangeSame
set_option linter.unusedSimpArgs false
set_option linter.unusedVariables false
namespace Go.Proofs.YticipgjbgcdccaaDoor
open Go.RowKit Go.ChangeShapes Go.WideShapes Go.ChangeAt

theorem own : ownKnob Tryd.prog.godebug = none := by kernel_rfl
theorem kids : Kids Tryd.prog (· < Tryd.prog.types.size) := kids_rows (by kernel_rfl) (by kernel_rfl)
theorem full : ∀ t e, t < Tryd.prog.types.size → Tryd.prog.underlying t = some (.slice e) → 0 < Tryd.prog.cellsOf e := slices_full_of Tryd.prog (by kernel_rfl)

abbrev laidAll : List (String × DataW Unit) := [("math/bits.deBruijn32tab", Rows.laid_math_bits_deBruijn32tab), ("math/bits.deBruijn64tab", Rows.laid_math_bits_deBruijn64tab), ("internal/strconv.uint64pow10", Rows.laid_internal_strconv_uint64pow10)]
def tab32 : List Int := [0, 1, 28, 2, 29, 14, 24, 3, 30, 22, 20, 15, 25, 17, 4, 8, 31, 27, 13, 23, 21, 19, 16, 7, 26, 12, 18, 6, 11, 5, 10, 9]
def tab64 : List Int := Lib.deBruijn64tab.map fun (n : Nat) => (n : Int)

/-- a world that meets the condition: the settled one, the tables laid -/
noncomputable def laidWorld (os : Os) : World :=
  let w0 := World.holding Tryd.prog os ⟨#[], #[], []⟩
  let put (h : Array Obj) (g : Nat) (cs : Array Value) : Array Obj := h.modify g fun
    | .cells _ t frozen => .cells cs t frozen
    | o => o
  let h1 := put w0.heap 3 (tab32.map fun z => Value.int .u8 z).toArray
  let h2 := put h1 0 (tab64.map fun z => Value.int .u8 z).toArray
  let h3 := put h2 2 (Lib.pow10Tab.map fun z => Value.int .u64 z).toArray
  { w0 with heap := h3 }
theorem laid_met (os : Os) (args : Array Value) : laidMet Tryd.prog laidAll ((laidWorld os).forCall (fun _ _ => 0) ⟨#[], args, []⟩).memory :=
  (LaidIn.of_run [3, 0, 2] 8 (by kernel_rfl) (by kernel_rfl) (by kernel_rfl) (by kernel_rfl)).met

theorem tab_of_reads {P : Program} {W : World} {name : String} {k : IntKind} {zs : List Int} {g : Nat} {t e : TypeId} {n : Nat}
    (hg : P.globalNamed name = some g) (hty : (P.globals[g]?).map (·.type) = some t) (ht : P.underlying t = some (.array n e)) (he : P.underlying e = some (.int k)) (hce : P.cellsOf e = 1) (hct : P.cellsOf t = n)
    (h : Lib.VarReads P W name (Lib.tabData k zs)) : Lib.TabIs P W name k zs := by
  obtain ⟨g', t', cs, fuel, p, hg', ht', hvar, hd⟩ := h
  obtain rfl := Option.some.inj (hg.symm.trans hg')
  obtain rfl := Option.some.inj (hty.symm.trans ht')
  unfold Lib.TabIs
  rw [hvar, ← Lib.cells_of_tab ht he hce hct hd]

/-- what the listed variables give the walks -/
theorem tabs_of_laid {W : World} (hL : laidMet Tryd.prog laidAll W) : Deb W ∧ 0 < W.heap.size ∧ Tab W := by
  have h64 : Lib.TabIs Tryd.prog W "math/bits.deBruijn64tab" .u8 tab64 :=
    tab_of_reads (g := 0) (t := 146) (e := 5) (n := 64) (by kernel_rfl) (by kernel_rfl) (by kernel_rfl) (by kernel_rfl) (by kernel_rfl) (by kernel_rfl) (Lib.laidMet.reads hL (.tail _ (.head _)))
  have h10 : Lib.TabIs Tryd.prog W "internal/strconv.uint64pow10" .u64 Lib.pow10Tab :=
    tab_of_reads (g := 2) (t := 162) (e := 133) (n := 20) (by kernel_rfl) (by kernel_rfl) (by kernel_rfl) (by kernel_rfl) (by kernel_rfl) (by kernel_rfl) (Lib.laidMet.reads hL (.tail _ (.tail _ (.head _))))
  have hD : Deb W := fun j hj => by
    have := Lib.TabIs.cell h64 (g := 0) (by kernel_rfl) j (by simpa [tab64] using hj)
    rw [this]
    simp [tab64, List.getD_eq_getElem?_getD]
    cases Lib.deBruijn64tab[j]? <;> rfl
  exact ⟨hD, World.block_lt_of_cell? _ _ (hD 0 (by decide)), h10⟩
end Go.Proofs.YticipgjbgcdccaaDoor
namespace Go.Proofs.YticipgjbgcdccaaDoor
open Go.RowKit Go.ChangeShapes Go.WideShapes Go.ChangeAt

theorem list_of {α : Type} {P : Nat → α → Prop} : ∀ (n : Nat), (∀ i, i < n → ∃ y, P i y) → ∃ l : List α, l.length = n ∧ ∀ (i : Nat) (hi : i < l.length), P i l[i]
  | 0, _ => ⟨[], rfl, fun i hi => by simp at hi⟩
  | n + 1, h => by
    obtain ⟨l, hl, hp⟩ := list_of n fun i hi => h i (by omega)
    obtain ⟨y, hy⟩ := h n (by omega)
    refine ⟨l ++ [y], by simp [hl], fun i hi => ?_⟩
    by_cases e : i < l.length
    · rw [List.getElem_append_left e]; exact hp i e
    · have e2 : i = n := by simp at hi; omega
      subst e2
      rw [List.getElem_append_right (by omega)]
      simpa [hl] using hy
theorem cells_get {w : World} {base : Nat} {a : Addr} {n : Nat} {cs : List Value} (h : w.cells? base a n = some cs) : cs.length = n ∧ ∀ j, j < n → w.cell? (a.add j) = cs[j]? := by
  unfold World.cells? at h
  split at h
  · refine ⟨by simpa using Lib.mapM_length h, fun j hj => ?_⟩
    obtain ⟨b, h1, h2⟩ := Lib.mapM_at h j j (by simp [hj])
    rw [h2, h1]
  · cases h
theorem LsAt.of_get {w : World} {S : Nat → Prop} {g : Nat} : ∀ (l : List Ex) (o : Nat), (∀ (i : Nat) (hi : i < l.length), ExAt w S g (o + 6 * i) l[i]) → LsAt w S g o l
  | [], o, _ => by unfold LsAt; trivial
  | x :: xs, o, h => by
    unfold LsAt
    refine ⟨h 0 (Nat.succ_pos _), LsAt.of_get xs (o + 6) fun i hi => ?_⟩
    have := h (i + 1) (by simpa using hi)
    rw [show o + 6 + 6 * i = o + 6 * (i + 1) by omega]
    simpa using this
theorem bytes25 : Tryd.prog.bytesOf 25 = 64 := by kernel_rfl
theorem cells25 : Tryd.prog.cellsOf 25 = 6 := by kernel_rfl
theorem cells3 : Tryd.prog.cellsOf 3 = 1 := by kernel_rfl
theorem cells23 : Tryd.prog.cellsOf 23 = 1 := by kernel_rfl
theorem weightsAll_mem {H : Type} {P : Program} {e : TypeId} : ∀ {l : List (DataW H)} {d : DataW H}, d ∈ l → ∀ q ∈ d.weights P e, q ∈ DataW.weightsAll P e l
  | [], _, h => by simp at h
  | x :: l, d, h => by
    intro q hq
    unfold DataW.weightsAll
    rcases List.mem_cons.1 h with rfl | h
    · exact List.mem_append_left _ hq
    · exact List.mem_append_right _ (weightsAll_mem h q hq)

theorem field_at {H : Type} {enc : TypeId × Value → H} {P : Program} {w : World} {base : Nat} {sp : Nat → Bool} {held : Bool} {n : Nat} {f : Field} {cs : List Value} {r : Option (DataW H × List MemPlace)}
    (h : DataW.trod enc P w base sp held n f.type ((cs.drop f.offset).take (P.cellsOf f.type)) = r) {ty of : Nat} (h1 : f.type = ty) (h2 : f.offset = of) : DataW.trod enc P w base sp held n ty ((cs.drop of).take (P.cellsOf ty)) = r := by subst h1 h2; exact h
/-- the world's own blocks -/
abbrev Old (W : World) (k : Nat) : Prop := k < W.heap.size
theorem open_both {H : Type} {enc : TypeId × Value → H} {W : World} {sp : Nat → Bool} : ∀ fuel : Nat,
    (∀ cs (x : DataW H × List MemPlace), DataW.trod enc Tryd.prog W 0 sp true fuel 23 cs = some x → ∃ A n c l, cs = [.slice A n c] ∧ Sl W (Old W) A n c l ∧ ((∀ q ∈ x.1.weights Tryd.prog 23, q ≤ reachBytes) → l.length ≤ 140737488355328 ∧ ∀ y ∈ l, lenOk y)) ∧
    (∀ cs (x : DataW H × List MemPlace), DataW.trod enc Tryd.prog W 0 sp true fuel 25 cs = some x → ∃ (y : Ex) (A : Option Addr) (n c : Nat), cs = [.int .i64 y.k, .int .i64 y.f, .int .i64 y.t, .int .i64 y.a, .int .i64 y.b, .slice A n c] ∧ Sl W (Old W) A n c y.l ∧ ((∀ q ∈ x.1.weights Tryd.prog 25, q ≤ reachBytes) → lenOk y)) := by
  intro fuel
  induction fuel with
  | zero => exact ⟨fun cs x h => by simp [DataW.trod] at h, fun cs x h => by simp [DataW.trod] at h⟩
  | succ fuel ih =>
    constructor
    · intro cs x h
      rcases DataW.trod_slice Tryd.underlying23 h with ⟨rfl, rfl⟩ | ⟨a, len, cap, elems, rest, n, hn, rfl, rfl, _, hlc, hcm, hel, hget, _, _⟩
      · exact ⟨none, 0, 0, [], rfl, ⟨rfl, Nat.le_refl _, by omega, fun h => absurd rfl h⟩, fun _ => ⟨by simp, by simp⟩⟩
      · obtain rfl : fuel = n := by omega
        rw [cells25] at hget
        obtain ⟨l, hl, hp⟩ := list_of (P := fun i (y : Ex) => ∃ (A : Option Addr) (n c : Nat) (cs : List Value), W.cells? 0 (a.add (i * 6)) 6 = some cs ∧ cs = [.int .i64 y.k, .int .i64 y.f, .int .i64 y.t, .int .i64 y.a, .int .i64 y.b, .slice A n c] ∧ Sl W (Old W) A n c y.l ∧
          ((∀ (z : DataW H × List MemPlace), elems[i]? = some z → ∀ q ∈ z.1.weights Tryd.prog 25, q ≤ reachBytes) → lenOk y)) len fun i hi => by
            have h1 := hget i hi
            rw [List.getElem?_eq_getElem (by omega)] at h1
            obtain ⟨cs, h2, h3⟩ := Option.bind_eq_some_iff.1 h1
            obtain ⟨y, A, n, c, e, hs, hw⟩ := ih.2 cs _ h3
            exact ⟨y, A, n, c, cs, h2, e, hs, fun hz => hw (hz _ (List.getElem?_eq_getElem (by omega)))⟩
        have hcm' : cap ≤ 9223372036854775807 := by simpa [maxLen] using hcm
        refine ⟨some a, len, cap, l, rfl, ⟨hl.symm, by omega, hcm', fun hne => ?_⟩, fun hw => ?_⟩
        · have h0 : 0 < l.length := List.length_pos_iff.2 hne
          have hcell : ∀ (i : Nat) (hi : i < l.length), ∃ (A : Option Addr) (n c : Nat), Sl W (Old W) A n c l[i].l ∧ W.cell? ((a.add (i * 6)).add 0) = some (.int .i64 l[i].k) ∧ W.cell? ((a.add (i * 6)).add 1) = some (.int .i64 l[i].f) ∧ W.cell? ((a.add (i * 6)).add 2) = some (.int .i64 l[i].t) ∧ W.cell? ((a.add (i * 6)).add 3) = some (.int .i64 l[i].a) ∧ W.cell? ((a.add (i * 6)).add 4) = some (.int .i64 l[i].b) ∧ W.cell? ((a.add (i * 6)).add 5) = some (.slice A n c) := by
            intro i hi
            obtain ⟨A, n, c, cs, h1, rfl, hs, _⟩ := hp i hi
            obtain ⟨_, h2⟩ := cells_get h1
            exact ⟨A, n, c, hs, h2 0 (by omega), h2 1 (by omega), h2 2 (by omega), h2 3 (by omega), h2 4 (by omega), h2 5 (by omega)⟩
          obtain ⟨g, o, sp'⟩ := a
          have hz : W.cell? ⟨g, o, sp'⟩ = some (.int .i64 l[0].k) := by
            obtain ⟨A, n, c, _, h1, _⟩ := hcell 0 h0
            simpa [Addr.add] using h1
          have hg : g < W.heap.size := World.block_lt_of_cell? _ _ hz
          have hsp : sp' = none := by
            unfold World.cell? at hz
            cases hh : W.heap[g]? with
            | none => simp [hh] at hz
            | some ob =>
              cases ob <;> simp [hh] at hz
              cases sp' with
              | none => rfl
              | some _ => simp at hz
          subst hsp
          refine ⟨g, o, rfl, hg, hg, LsAt.of_get l o fun i hi => ?_⟩
          obtain ⟨A, n, c, hs, c0, c1, c2, c3, c4, c5⟩ := hcell i hi
          have ea : ∀ j, ((⟨g, o, none⟩ : Addr).add (i * 6)).add j = ⟨g, o + 6 * i + j, none⟩ := fun j => by
            have h1 : ∀ b m k, (⟨b, m, none⟩ : Addr).add k = ⟨b, m + k, none⟩ := fun b m k => by unfold Addr.add; split <;> simp_all
            rw [h1, h1, Nat.mul_comm]
          rw [ea] at c0 c1 c2 c3 c4 c5
          generalize l[i] = y at hs c0 c1 c2 c3 c4 c5
          obtain ⟨k, f, t, a', b, l'⟩ := y
          obtain ⟨s1, s2, s3, s4⟩ := hs
          have s1 : n = l'.length := s1
          subst s1
          unfold ExAt
          exact ⟨c0, c1, c2, c3, c4, A, c, c5, s2, s3, s4⟩
        · simp only [DataW.weights, Tryd.underlying23, bytes25, List.mem_cons, List.mem_append] at hw
          have h1 := hw _ (.inl rfl)
          simp only [List.length_map, reachBytes] at h1
          refine ⟨by omega, fun y hy => ?_⟩
          obtain ⟨i, hi, rfl⟩ := List.getElem_of_mem hy
          obtain ⟨A, n, c, cs, _, _, _, h2⟩ := hp i hi
          refine h2 fun z hz q hq => hw q (.inr (.inl (weightsAll_mem (List.mem_map.2 ⟨z, List.mem_of_getElem? hz, rfl⟩) q hq)))
    · intro cs x h
      obtain ⟨xs, n, hn, rfl, hlen, hxl, hget⟩ := DataW.trod_struct Tryd.underlying25 h
      obtain rfl : fuel = n := by omega
      rw [cells25] at hlen
      obtain ⟨v0, v1, v2, v3, v4, v5, rfl⟩ : ∃ v0 v1 v2 v3 v4 v5, cs = [v0, v1, v2, v3, v4, v5] := by
        rcases cs with _ | ⟨v0, _ | ⟨v1, _ | ⟨v2, _ | ⟨v3, _ | ⟨v4, _ | ⟨v5, _ | ⟨v6, r⟩⟩⟩⟩⟩⟩⟩ <;> simp at hlen
        exact ⟨v0, v1, v2, v3, v4, v5, rfl⟩
      obtain ⟨y0, y1, y2, y3, y4, y5, rfl⟩ : ∃ v0 v1 v2 v3 v4 v5, xs = [v0, v1, v2, v3, v4, v5] := by
        rcases xs with _ | ⟨v0, _ | ⟨v1, _ | ⟨v2, _ | ⟨v3, _ | ⟨v4, _ | ⟨v5, _ | ⟨v6, r⟩⟩⟩⟩⟩⟩⟩ <;> simp at hxl
        exact ⟨v0, v1, v2, v3, v4, v5, rfl⟩
      have g0 := field_at (hget 0 _ rfl) (ty := 3) (of := 0) rfl rfl
      rw [cells3] at g0
      change DataW.trod enc Tryd.prog W 0 sp true fuel 3 [v0] = some y0 at g0
      have g1 := field_at (hget 1 _ rfl) (ty := 3) (of := 1) rfl rfl
      rw [cells3] at g1
      change DataW.trod enc Tryd.prog W 0 sp true fuel 3 [v1] = some y1 at g1
      have g2 := field_at (hget 2 _ rfl) (ty := 3) (of := 2) rfl rfl
      rw [cells3] at g2
      change DataW.trod enc Tryd.prog W 0 sp true fuel 3 [v2] = some y2 at g2
      have g3 := field_at (hget 3 _ rfl) (ty := 3) (of := 3) rfl rfl
      rw [cells3] at g3
      change DataW.trod enc Tryd.prog W 0 sp true fuel 3 [v3] = some y3 at g3
      have g4 := field_at (hget 4 _ rfl) (ty := 3) (of := 4) rfl rfl
      rw [cells3] at g4
      change DataW.trod enc Tryd.prog W 0 sp true fuel 3 [v4] = some y4 at g4
      have g5 := field_at (hget 5 _ rfl) (ty := 23) (of := 5) rfl rfl
      rw [cells23] at g5
      change DataW.trod enc Tryd.prog W 0 sp true fuel 23 [v5] = some y5 at g5
      obtain ⟨n0, e0, _, _⟩ := DataW.trod_int Tryd.underlying3 g0
      obtain ⟨n1, e1, _, _⟩ := DataW.trod_int Tryd.underlying3 g1
      obtain ⟨n2, e2, _, _⟩ := DataW.trod_int Tryd.underlying3 g2
      obtain ⟨n3, e3, _, _⟩ := DataW.trod_int Tryd.underlying3 g3
      obtain ⟨n4, e4, _, _⟩ := DataW.trod_int Tryd.underlying3 g4
      obtain ⟨A, n, c, l, e5, hs, hw⟩ := ih.1 _ _ g5
      injection e0 with e0 _
      injection e1 with e1 _
      injection e2 with e2 _
      injection e3 with e3 _
      injection e4 with e4 _
      injection e5 with e5 _
      subst e0 e1 e2 e3 e4 e5
      refine ⟨.mk n0 n1 n2 n3 n4 l, A, n, c, rfl, hs, fun hz => ?_⟩
      simp only [DataW.weights, Tryd.underlying25, List.map_cons, List.map_nil] at hz
      simp only [DataW.weightsEach, List.mem_append] at hz
      have := hw fun q hq => hz q (.inr (.inr (.inr (.inr (.inr (.inl hq))))))
      unfold lenOk
      exact ⟨this.1, (lensOk_iff l).2 this.2⟩
end Go.Proofs.YticipgjbgcdccaaDoor
