/- Contracts: the source of rules (kauditmake). Printed by genK4.py. -/
import Derived.Test.YtnbfenapnfbmeaaGreatK3
import Derived.Deep.RegionLaw
set_option linter.unusedSimpArgs false
set_option linter.unusedVariables false
namespace Go.Proofs.YtnbfenapnfbmeaaGreat
open Go.RowKit
def zeroR : Rule := ⟨0, 0, 0, none, 0, [], 0, ⟨#[]⟩, 0, ⟨#[]⟩⟩
abbrev TOwn (V : World) (B : Nat) (r : Rule) : Prop := OwnRow V B tTest 5 Test.cells (.slice r.ta r.tests.length r.tc) r.tests
theorem TOwn.kept {V U : World} {B : Nat} {r : Rule} {row : Option Nat} (h : TOwn V B r) (hg : V.grownBy U row) (hr : ∀ k, row = some k → k < B ∨ ∃ cs t fz, V.heap[k]? = some (.cells cs t fz) ∧ t ≠ tTest) : TOwn U B r := by
  refine World.ownsRow.kept h hg ?_
  rcases h.2 with ⟨he, _⟩ | ⟨g, cap, cur, he, hb, hgg, _⟩
  · exact .inl (by rw [he]; rfl)
  · refine .inr (fun e => ?_)
    rw [he] at e
    rcases hr g (by rw [← e]; rfl) with h1 | ⟨cs, t, fz, h1, h2⟩
    · omega
    · rw [hgg] at h1
      cases h1
      exact h2 rfl
/-- A source and a rule that is being made in block b; the result's cell stands empty. -/
structure RSt (W : World) (p : Nat) (la : Option Addr) (xs : List Int) (lc n k : Nat) (V : World) (m b : Nat) (r : Rule) (j : Nat) : Prop where
  st : St W p la xs lc n k V m [(b, ruleBox r), (W.heap.size, ruleBox zeroR)]
  ne : b ≠ W.heap.size
  row : TOwn V W.heap.size r
  len : r.tests.length = j
  path : PathOk r.path
  key : r.key.size ≤ 10
section
variable {W V U : World} {p : Nat} {la : Option Addr} {xs : List Int} {lc n k m b j : Nat} {r : Rule}
theorem RSt.step {m' : Nat} (h : RSt W p la xs lc n k V m b r j) (i : Nat) (hs : Src U p la xs lc m') (hm : m' ≤ m + i) (hv : Moved p V U) : RSt W p la xs lc n (k + i) U m' b r j :=
  ⟨h.st.step i hs hm hv, h.ne, h.row.kept hv (fun q hq => .inl (by cases hq; exact h.st.hp)), h.len, h.path, h.key⟩
theorem RSt.up (h : RSt W p la xs lc n k V m b r j) (i : Nat) (hi : k ≤ i) : RSt W p la xs lc n i V m b r j := ⟨h.st.up i hi, h.ne, h.row, h.len, h.path, h.key⟩
theorem RSt.cells (h : RSt W p la xs lc n k V m b r j) :
    V.cell? ⟨b, 0, none⟩ = some (.int .i64 r.list) ∧ V.cell? ⟨b, 1, none⟩ = some (.int .i64 r.action) ∧ V.cell? ⟨b, 2, none⟩ = some (.int .u64 r.calls) ∧ V.cell? ⟨b, 3, none⟩ = some (.slice r.ta r.tests.length r.tc) ∧ V.cell? ⟨b, 4, none⟩ = some (.int .i64 r.watch) ∧ V.cell? ⟨b, 5, none⟩ = some (.string r.path) ∧ V.cell? ⟨b, 6, none⟩ = some (.int .i64 r.perm) ∧ V.cell? ⟨b, 7, none⟩ = some (.string r.key) ∧
    (V.frozen? ⟨b, 0, none⟩ = false ∧ V.frozen? ⟨b, 1, none⟩ = false ∧ V.frozen? ⟨b, 2, none⟩ = false ∧ V.frozen? ⟨b, 3, none⟩ = false ∧ V.frozen? ⟨b, 4, none⟩ = false ∧ V.frozen? ⟨b, 5, none⟩ = false ∧ V.frozen? ⟨b, 6, none⟩ = false) := by
  have c := cell_of_block h.st.box
  have f := frozen_of_block h.st.box
  exact ⟨c 0, c 1, c 2, c 3, c 4, c 5, c 6, c 7, f 0, f 1, f 2, f 3, f 4, f 5, f 6⟩
/-- A cell of the rule is written, not that of the tests. -/
theorem RSt.set (h : RSt W p la xs lc n k V m b r j) (i : Nat) (v : Value) (r' : Rule) (hc : (#[.int .i64 r.list, .int .i64 r.action, .int .u64 r.calls, .slice r.ta r.tests.length r.tc, .int .i64 r.watch, .string r.path, .int .i64 r.perm, .string r.key] : Array Value).setIfInBounds i v = #[.int .i64 r'.list, .int .i64 r'.action, .int .u64 r'.calls, .slice r'.ta r'.tests.length r'.tc, .int .i64 r'.watch, .string r'.path, .int .i64 r'.perm, .string r'.key])
    (ht : r'.ta = r.ta ∧ r'.tc = r.tc ∧ r'.tests = r.tests) (hp : PathOk r'.path) (hk : r'.key.size ≤ 10) : RSt W p la xs lc n k (V.setCell ⟨b, i, none⟩ v) m b r' j := by
  obtain ⟨t1, t2, t3⟩ := ht
  refine ⟨h.st.cell i v _ hc (by decide) (fun x hx => by rw [List.mem_singleton.1 hx]; exact Ne.symm h.ne), h.ne, ?_, by rw [t3]; exact h.len, hp, hk⟩
  have := h.row.kept (grown_setCell V b i v) (fun q hq => .inr (by cases hq; exact ⟨_, _, _, h.st.box, by decide⟩))
  show OwnRow _ _ _ _ _ _ _
  rw [t1, t2, t3]
  exact this
theorem RSt.at_ (h : RSt W p la xs lc n k V m b r j) (hj : j ≤ 1000) : RuleAt V r := by
  obtain ⟨a, c, e, hn, hr⟩ := h.row.shape (fun _ => rfl)
  have hc := h.row.cap_le
  cases e
  have := h.len
  have := h.key
  exact ⟨⟨by omega, hr⟩, hn, hc, h.path, by omega⟩
/-- A test is put behind the others: the row has grown. -/
theorem RSt.grow {g cap : Nat} {t : Test} {o : Obj} (h : RSt W p la xs lc n k V m b r j) (hown : U.ownsRow W.heap.size tTest 5 (.slice (some ⟨g, 0, none⟩) (r.tests.length + 1) cap) (r.tests.length + 1) (r.tests.flatMap Test.cells ++ t.cells))
    (hg : (V.alloc o).grownBy U (Value.slice r.ta r.tests.length r.tc).ownBlock) :
    St W p la xs lc n k U m [(b, ruleBox r), (W.heap.size, ruleBox zeroR)] ∧ TOwn U W.heap.size { r with ta := some ⟨g, 0, none⟩, tc := cap, tests := r.tests ++ [t] } := by
  have h1 := h.st.alloc o
  have hrow : TOwn (V.alloc o) W.heap.size r := World.ownsRow.alloc h.row o
  have hblk : ∀ q, (Value.slice r.ta r.tests.length r.tc).ownBlock = some q → W.heap.size ≤ q ∧ ∃ cs fz, (V.alloc o).heap[q]? = some (.cells cs tTest fz) := by
    intro q hq
    rcases hrow.2 with ⟨he, _⟩ | ⟨g', cap', cur, he, hb, hgg, _⟩
    · rw [he] at hq; cases hq
    · rw [he] at hq; cases hq; exact ⟨hb, _, _, hgg⟩
  constructor
  · refine ⟨⟨⟨?_, h1.mill.src.row.keep ?_, h1.mill.src.le⟩, h1.mill.le, ?_⟩, h1.hp, fun x hx => ⟨(h1.at' x hx).1, ?_⟩⟩
    · refine (hg.block p (lt_of_some h1.mill.src.blk) (fun e => ?_)).trans h1.mill.src.blk
      have := (hblk p e.symm).1
      have := h1.hp
      omega
    · intro b' hb'
      refine hg.block b' (Nat.lt_trans hb' (lt_of_some h1.mill.src.blk)) (fun e => ?_)
      have := (hblk b' e.symm).1
      have := h1.hp
      omega
    · refine ⟨hg.os.trans h1.mill.moved.os, hg.tape.trans h1.mill.moved.tape, hg.output.trans h1.mill.moved.output, Nat.le_trans h1.mill.moved.size hg.size, fun i hi hne => ?_⟩
      refine (hg.block i (Nat.lt_of_lt_of_le hi h1.mill.moved.size) (fun e => ?_)).trans (h1.mill.moved.block i hi hne)
      have := (hblk i e.symm).1
      omega
    · refine (hg.block x.1 (lt_of_some (h1.at' x hx).2) (fun e => ?_)).trans (h1.at' x hx).2
      obtain ⟨_, cs2, fz2, h3⟩ := hblk x.1 e.symm
      have h4 := (h1.at' x hx).2
      rw [h3] at h4
      rcases List.mem_cons.1 hx with rfl | hx
      · cases h4
      · rw [List.mem_singleton.1 hx] at h4; cases h4
  · show OwnRow _ _ _ _ _ _ _
    unfold OwnRow
    rw [List.flatMap_append]
    simpa using hown
theorem RSt.set456 (h : RSt W p la xs lc n k V m b r j) (x z : Int) (y : ByteArray) (hy : PathOk y) :
    RSt W p la xs lc n k (((V.setCell ⟨b, 4, none⟩ (.int .i64 x)).setCell ⟨b, 5, none⟩ (.string y)).setCell ⟨b, 6, none⟩ (.int .i64 z)) m b { r with watch := x, path := y, perm := z } j :=
  ((h.set 4 (.int .i64 x) { r with watch := x } rfl ⟨rfl, rfl, rfl⟩ h.path h.key).set 5 (.string y) { r with watch := x, path := y } rfl ⟨rfl, rfl, rfl⟩ hy h.key).set 6 (.int .i64 z) _ rfl ⟨rfl, rfl, rfl⟩ hy h.key
theorem RSt.set601 (h : RSt W p la xs lc n k V m b r j) (x y z : Int) :
    RSt W p la xs lc n k (((V.setCell ⟨b, 6, none⟩ (.int .i64 x)).setCell ⟨b, 0, none⟩ (.int .i64 y)).setCell ⟨b, 1, none⟩ (.int .i64 z)) m b { r with perm := x, list := y, action := z } j :=
  ((h.set 6 (.int .i64 x) { r with perm := x } rfl ⟨rfl, rfl, rfl⟩ h.path h.key).set 0 (.int .i64 y) { r with perm := x, list := y } rfl ⟨rfl, rfl, rfl⟩ h.path h.key).set 1 (.int .i64 z) _ rfl ⟨rfl, rfl, rfl⟩ h.path h.key
theorem RSt.drew (h : RSt W p la xs lc n k V m b r j) : RSt W p la xs lc n k V.drew m b r j := ⟨h.st.drewN 1, h.ne, h.row, h.len, h.path, h.key⟩
theorem RSt.grown {g cap : Nat} {t : Test} (h : RSt W p la xs lc n k V m b r j) (hs : St W p la xs lc n k U m [(b, ruleBox r), (W.heap.size, ruleBox zeroR)] ∧ TOwn U W.heap.size { r with ta := some ⟨g, 0, none⟩, tc := cap, tests := r.tests ++ [t] }) :
    RSt W p la xs lc n k (U.setCell ⟨b, 3, none⟩ (.slice (some ⟨g, 0, none⟩) (r.tests.length + 1) cap)) m b { r with ta := some ⟨g, 0, none⟩, tc := cap, tests := r.tests ++ [t] } (j + 1) := by
  refine ⟨hs.1.cell 3 _ _ (by simp) (by decide) (fun x hx => by rw [List.mem_singleton.1 hx]; exact Ne.symm h.ne), h.ne, ?_, by simp [h.len], h.path, h.key⟩
  exact hs.2.kept (grown_setCell U b 3 _) (fun q hq => .inr (by cases hq; exact ⟨_, _, _, hs.1.box, by decide⟩))
theorem St.cell3 (h : St W p la xs lc n k V m [(b, ruleBox r), (W.heap.size, ruleBox zeroR)]) : V.cell? ⟨b, 3, none⟩ = some (.slice r.ta r.tests.length r.tc) ∧ V.frozen? ⟨b, 3, none⟩ = false := ⟨cell_of_block h.box 3, frozen_of_block h.box 3⟩
end
def RulePost (W : World) (p : Nat) (la : Option Addr) (xs : List Int) (lc n : Nat) (e : Ending) (W' : World) : Prop :=
  ∃ (r : Rule) (n' : Nat), e = .returned r.v ∧ RuleAt W' r ∧ Mill W p la xs lc n 100 W' n'
theorem words_small : ∀ y ∈ ([⟨#[]⟩, ⟨#[107]⟩, ⟨#[97, 32, 98]⟩, ⟨#[120]⟩] : List ByteArray), y.size ≤ 10 := by decide +kernel
theorem pathOk_nil : PathOk ⟨#[]⟩ := ⟨Nat.zero_le _, by simp [ByteArray.toList_eq]⟩
theorem pathOk_slash : PathOk ⟨#[47]⟩ := ⟨by decide, by decide +kernel⟩
theorem picks_rule : ∀ x ∈ ([0, 0, 1, 1, 2, 3] : List Int), 0 ≤ x ∧ x ≤ 3 := by decide
set_option maxRecDepth 100000 in
set_option maxHeartbeats 2000000 in
theorem c_rule (p : Nat) (la : Option Addr) (xs : List Int) (lc n : Nat) (W : World) (hS : Src W p la xs lc n) (hn : n ≤ 999998000) :
    Calls Tryz.prog 17 #[.pointer (some ⟨p, 0, none⟩)] W (RulePost W p la xs lc n) := by
  have HS := Lib.hid ((St.start hS).new (ruleBox zeroR))
  clear hS
  obtain ⟨i0, hi, hz0, hz1, hz2⟩ := info_parts info_test
  have HI := Lib.hid hi
  clear hi
  go_enter Tryz.func17, Tryz.ntmps17
  go_upto_region 1 with fail
  obtain ⟨W1, hW1⟩ : ∃ W1, W1 = W.alloc (ruleBox zeroR) := ⟨_, rfl⟩
  change Code.wp _ _ _ _ (W.alloc (ruleBox zeroR))
  rw [← hW1] at HS ⊢
  clear hW1
  go_cut [3] (fun s3 wc => ∃ (b : Nat) (r : Rule) (m : Nat), s3 = .pointer (some ⟨b, 0, none⟩) ∧ Aside (RSt W p la xs lc n 3 wc m b r 0))
  case first =>
    go_wp2_with (first
    | (go_at_call 31; refine (c_pickA p la xs lc _ _ _ _ HS.out.mill.src (by omega) (by kernel_rfl) (by kernel_rfl) (by decide) (by decide)).mono ?_; rintro e w1 ⟨x, n1, rfl, _, hS', hn', hm'⟩; have HS1 := Lib.hid (HS.out.step 1 hS' hn' hm'); have hle := HS1.out.mill.le; clear HS; have HS := HS1; clear HS1 hS' hn' hm')
    | (go_at_call 41; refine (c_wordA p la xs lc _ _ _ _ HS.out.mill.src (by omega) (by kernel_rfl) (by kernel_rfl) (by decide) (by decide)).mono ?_; rintro e w1 ⟨y, n1, rfl, hw, hS', hn', hm'⟩; have HW := Lib.hid (words_small y hw); clear hw; have HS1 := Lib.hid (HS.out.step 1 hS' hn' hm'); have hle := HS1.out.mill.le; clear HS; have HS := HS1; clear HS1 hS' hn' hm'))
    go_meet
    exact ⟨_, ⟨_, _, 0, none, 0, [], 0, ⟨#[]⟩, 0, _⟩, _, rfl, ⟨HS.out.new _, Nat.ne_of_gt (lt_of_some HS.out.box), World.ownsRow_nil _ _ _ _, rfl, pathOk_nil, HW.out⟩⟩
  case rest =>
    obtain ⟨b, r, m, rfl, HS2⟩ := hcut
    have HS1 := Lib.hid HS2
    clear HS2
    (try clear HS k0 k1 k2 k3 k4 k5 k6 k7 g0 g1 g2 g3 g4 g5 g6)
    have HS := HS1
    clear HS1
    have hle := HS.out.st.mill.le
    obtain ⟨k0, k1, k2, k3, k4, k5, k6, k7, g0, g1, g2, g3, g4, g5, g6⟩ := HS.out.cells
    go_upto_region 2 with fail
    go_cut [22] (fun s22 wc => ∃ q r m, s22 = .bool q ∧ Aside (RSt W p la xs lc n 3 wc m b r 0))
    case first =>
      go_wp2
      all_goals go_meet
      all_goals exact ⟨_, r, m, rfl, HS.out⟩
    case rest =>
      obtain ⟨q, r, m, rfl, HS2⟩ := hcut
      have HS1 := Lib.hid HS2
      clear HS2
      (try clear HS k0 k1 k2 k3 k4 k5 k6 k7 g0 g1 g2 g3 g4 g5 g6)
      have HS := HS1
      clear HS1
      have hle := HS.out.st.mill.le
      obtain ⟨k0, k1, k2, k3, k4, k5, k6, k7, g0, g1, g2, g3, g4, g5, g6⟩ := HS.out.cells
      go_upto_if 22 with fail
      go_cut [] (fun wc => ∃ (r : Rule) (m : Nat), Aside (RSt W p la xs lc n 44 wc m b r 0))
      case first =>
        cases q with
        | false =>
          go_wp2
          go_meet
          exact ⟨r, m, HS.out.up 44 (by omega)⟩
        | true =>
          go_upto_region 4 with (first
    | (go_at_call 42; refine (c_mask p la xs lc _ _ HS.out.st.mill.src (by omega)).mono ?_; rintro e w1 ⟨x, n1, rfl, ⟨hS', hn', hm'⟩⟩; have HS1 := Lib.hid (HS.out.step 40 hS' hn' hm'); (try clear k0 k1 k2 k3 k4 k5 k6 k7 g0 g1 g2 g3 g4 g5 g6); have hle := HS1.out.st.mill.le; clear HS; have HS := HS1; clear HS1 hS' hn' hm'; obtain ⟨k0, k1, k2, k3, k4, k5, k6, k7, g0, g1, g2, g3, g4, g5, g6⟩ := HS.out.cells))
          have HS1 := Lib.hid (HS.out.set 2 (.int .u64 x) { r with calls := x } rfl ⟨rfl, rfl, rfl⟩ HS.out.path HS.out.key)
          obtain ⟨W2, hW2⟩ : ∃ W2, W2 = w1.setCell ⟨b, 2, none⟩ (.int .u64 x) := ⟨_, rfl⟩
          rw [← hW2] at HS1 ⊢
          have HS2 := Lib.hid (show ∃ r, RSt W p la xs lc n 43 W2 n1 b r 0 from ⟨_, HS1.out⟩)
          clear HS1 HS hW2 k0 k1 k2 k3 k4 k5 k6 k7 g0 g1 g2 g3 g4 g5 g6
          obtain ⟨r, HS2⟩ := HS2.out
          have HS := Lib.hid HS2
          clear HS2
          obtain ⟨k0, k1, k2, k3, k4, k5, k6, k7, g0, g1, g2, g3, g4, g5, g6⟩ := HS.out.cells
          go_upto_if 28 with (first
    | (go_at_call 11; refine (c_n p la xs lc _ _ _ HS.out.st.mill.src (by omega) (by decide) (by decide)).mono ?_; rintro e w1 ⟨x, n1, rfl, ⟨hx1, hx2⟩, hS', hn', hm'⟩; have HS1 := Lib.hid (HS.out.step 1 hS' hn' hm'); (try clear k0 k1 k2 k3 k4 k5 k6 k7 g0 g1 g2 g3 g4 g5 g6); have hle := HS1.out.st.mill.le; clear HS; have HS := HS1; clear HS1 hS' hn' hm'; obtain ⟨k0, k1, k2, k3, k4, k5, k6, k7, g0, g1, g2, g3, g4, g5, g6⟩ := HS.out.cells))
          go_cut [] (fun wc => ∃ (r : Rule) (m : Nat), Aside (RSt W p la xs lc n 44 wc m b r 0))
          case first =>
            go_wp2
            · go_meet
              exact ⟨{ r with calls := 4294967295 }, _, HS.out.set 2 (.int .u64 4294967295) _ rfl ⟨rfl, rfl, rfl⟩ HS.out.path HS.out.key⟩
            · go_meet
              exact ⟨r, _, HS.out⟩
          case rest =>
            obtain ⟨r, m, HS2⟩ := hcut
            have HS1 := Lib.hid HS2
            clear HS2
            (try clear HS k0 k1 k2 k3 k4 k5 k6 k7 g0 g1 g2 g3 g4 g5 g6)
            have HS := HS1
            clear HS1
            have hle := HS.out.st.mill.le
            obtain ⟨k0, k1, k2, k3, k4, k5, k6, k7, g0, g1, g2, g3, g4, g5, g6⟩ := HS.out.cells
            go_wp2
            · go_meet
              exact ⟨{ r with calls := 1 }, _, HS.out.set 2 (.int .u64 1) _ rfl ⟨rfl, rfl, rfl⟩ HS.out.path HS.out.key⟩
            · go_meet
              exact ⟨r, _, HS.out⟩
      case rest =>
        obtain ⟨r, m, HS2⟩ := hcut
        have HS1 := Lib.hid HS2
        clear HS2
        (try clear HS k0 k1 k2 k3 k4 k5 k6 k7 g0 g1 g2 g3 g4 g5 g6)
        have HS := HS1
        clear HS1
        have hle := HS.out.st.mill.le
        obtain ⟨k0, k1, k2, k3, k4, k5, k6, k7, g0, g1, g2, g3, g4, g5, g6⟩ := HS.out.cells
        go_upto_region 8 with fail
        go_cut [4] (fun s4 wc => ∃ (x : Int), s4 = .int .i64 x ∧ 0 ≤ x ∧ x ≤ 3 ∧ ∃ (r : Rule) (m : Nat), Aside (RSt W p la xs lc n 45 wc m b r 0))
        case first =>
          go_wp2_with (first
    | (go_at_call 31; refine (c_pickA p la xs lc _ _ _ _ HS.out.st.mill.src (by omega) (by kernel_rfl) (by kernel_rfl) (by decide) (by decide)).mono ?_; rintro e w1 ⟨x, n1, rfl, hx, hS', hn', hm'⟩; have HX := Lib.hid (picks_rule x hx); clear hx; have HS1 := Lib.hid (HS.out.step 1 hS' hn' hm'); (try clear k0 k1 k2 k3 k4 k5 k6 k7 g0 g1 g2 g3 g4 g5 g6); have hle := HS1.out.st.mill.le; clear HS; have HS := HS1; clear HS1 hS' hn' hm'; obtain ⟨k0, k1, k2, k3, k4, k5, k6, k7, g0, g1, g2, g3, g4, g5, g6⟩ := HS.out.cells))
          go_meet
          exact ⟨_, rfl, HX.out.1, HX.out.2, r, _, HS.out⟩
        case rest =>
          obtain ⟨x, rfl, hx1, hx2, r, m, HS2⟩ := hcut
          have HS1 := Lib.hid HS2
          clear HS2
          (try clear HS k0 k1 k2 k3 k4 k5 k6 k7 g0 g1 g2 g3 g4 g5 g6)
          have HS := HS1
          clear HS1
          have hle := HS.out.st.mill.le
          obtain ⟨k0, k1, k2, k3, k4, k5, k6, k7, g0, g1, g2, g3, g4, g5, g6⟩ := HS.out.cells
          go_upto_block 0 with fail
          go_cut [4] (fun s4 wc => ∃ (r : Rule) (m j : Nat), j ≤ 3 ∧ Aside (RSt W p la xs lc n 75 wc m b r j))
          case first =>
            go_wp2_with fail
            go_loopg [4] 3 (fun gg s4 wr => ∃ (j : Nat) (r : Rule) (m : Nat), j + gg = 3 ∧ (j : Int) ≤ x ∧ s4 = .int .i64 (x - j) ∧ Aside (RSt W p la xs lc n (45 + 10 * j) wr m b r j))
            case atStart => exact ⟨0, r, m, rfl, by omega, by go_num, HS.out⟩
            case round =>
              clear k0 k1 k2 k3 k4 k5 k6 k7 g0 g1 g2 g3 g4 g5 g6
              obtain ⟨j, r, m, hg, hjx, rfl, HS2⟩ := hrel
              have HS1 := Lib.hid HS2
              clear HS2
              (try clear HS k0 k1 k2 k3 k4 k5 k6 k7 g0 g1 g2 g3 g4 g5 g6)
              have HS := HS1
              clear HS1
              have hle := HS.out.st.mill.le
              obtain ⟨k0, k1, k2, k3, k4, k5, k6, k7, g0, g1, g2, g3, g4, g5, g6⟩ := HS.out.cells
              by_cases hlt : (0 : Int) < x - j
              · go_upto_region 11 with fail
                have HD := Lib.hid HS.out.drew
                have hl := HS.out.len
                subst hl
                go_region_law (first
                  | (go_simp; go_at_call 43; refine (c_test p la xs lc m _ _ HD.out.st.mill.src (by omega)).mono ?_; rintro e w1 ⟨t, n1, rfl, ⟨hS', hn', hm'⟩⟩; have HS1 := Lib.hid (HD.out.step 10 hS' hn' hm'); obtain ⟨q0, q1, q2, q3, q4, q5, q6, q7, qr⟩ := HS1.out.cells; clear hS' hn' hm' q1 q2 q4 q5 q6 q7 qr; have hbw : b < w1.heap.size := lt_of_some HS1.out.st.box; have qa : ∀ o : Obj, (w1.alloc o).cell? ⟨b, 3, none⟩ = some (Value.slice r.ta r.tests.length r.tc) := fun o => (cell_of_block (HS1.out.st.alloc o).box 3))
                  | (refine step_append_lies _ (by rfl) _ _ 46 (by rfl) W.heap.size tTest i0 _ 5 48 Tryz.underlying46 HI.out hz0 hz1 hz2 rfl (by decide) (.slice r.ta r.tests.length r.tc) r.tests.length (r.tests.flatMap Test.cells) (by rfl) (World.ownsRow.alloc HS1.out.row _) ⟨w1.heap.size, 0, none⟩ 1 1 t.cells (by rfl) rfl (news_new _ _ _) (one_test t) (by decide) (by unfold maxLen; omega) (by omega) (by rw [World.size_alloc]; exact Nat.le_succ_of_le HS1.out.st.mill.moved.size) _ rfl ?_; intro g cap w4 hown4 hg4 hgb hlt4; have HG := Lib.hid (HS1.out.grow hown4 hg4); clear hown4 hg4 hgb; obtain ⟨v3, z3⟩ := HG.out.1.cell3))
                all_goals
                  have HF := Lib.hid ((HS1.out.grown HG.out).up (45 + 10 * (r.tests.length + 1)) (by omega))
                  go_wp2
                  go_roundg (gk - 1)
                  case measure => omega
                  case rel => exact ⟨r.tests.length + 1, _, _, by omega, by omega, by go_num, HF.out⟩
              · go_wp2
                go_meet
                exact ⟨r, m, j, by omega, HS.out.up 75 (by omega)⟩
          case rest =>
            obtain ⟨r, m, j, hj, HS2⟩ := hcut
            have HS1 := Lib.hid HS2
            clear HS2
            (try clear HS k0 k1 k2 k3 k4 k5 k6 k7 g0 g1 g2 g3 g4 g5 g6)
            have HS := HS1
            clear HS1
            have hle := HS.out.st.mill.le
            obtain ⟨k0, k1, k2, k3, k4, k5, k6, k7, g0, g1, g2, g3, g4, g5, g6⟩ := HS.out.cells
            go_upto_region 12 with fail
            go_cut [57] (fun s57 wc => ∃ q r m, s57 = .bool q ∧ Aside (RSt W p la xs lc n 76 wc m b r j))
            case first =>
              go_wp2_with (first
    | (go_at_call 11; refine (c_n p la xs lc _ _ _ HS.out.st.mill.src (by omega) (by decide) (by decide)).mono ?_; rintro e w1 ⟨x, n1, rfl, ⟨hx1, hx2⟩, hS', hn', hm'⟩; have HS1 := Lib.hid (HS.out.step 1 hS' hn' hm'); (try clear k0 k1 k2 k3 k4 k5 k6 k7 g0 g1 g2 g3 g4 g5 g6); have hle := HS1.out.st.mill.le; clear HS; have HS := HS1; clear HS1 hS' hn' hm'; obtain ⟨k0, k1, k2, k3, k4, k5, k6, k7, g0, g1, g2, g3, g4, g5, g6⟩ := HS.out.cells))
              all_goals go_meet
              all_goals (first | exact ⟨_, r, _, rfl, HS.out⟩ | exact ⟨_, r, _, rfl, HS.out.up 76 (by omega)⟩)
            case rest =>
              obtain ⟨q, r, m, rfl, HS2⟩ := hcut
              have HS1 := Lib.hid HS2
              clear HS2
              (try clear HS k0 k1 k2 k3 k4 k5 k6 k7 g0 g1 g2 g3 g4 g5 g6)
              have HS := HS1
              clear HS1
              have hle := HS.out.st.mill.le
              obtain ⟨k0, k1, k2, k3, k4, k5, k6, k7, g0, g1, g2, g3, g4, g5, g6⟩ := HS.out.cells
              go_upto_if 57 with fail
              go_cut [] (fun wc => ∃ (r : Rule) (m : Nat), Aside (RSt W p la xs lc n 83 wc m b r j))
              case first =>
                cases q with
                | false =>
                  go_wp2
                  go_meet
                  exact ⟨r, m, HS.out.up 83 (by omega)⟩
                | true =>
                  go_upto_region 13 with fail
                  go_cut [] (fun wc => ∃ (r : Rule) (m : Nat), Aside (RSt W p la xs lc n 82 wc m b r j))
                  case first =>
                    go_wp2_with (first
    | (go_at_call 28; refine (c_range p la xs lc _ _ _ _ HS.out.st.mill.src (by omega) (by decide) (by decide) (by decide)).mono ?_; rintro e w1 ⟨x, n1, rfl, _, hS', hn', hm'⟩; have HS1 := Lib.hid (HS.out.step 1 hS' hn' hm'); (try clear k0 k1 k2 k3 k4 k5 k6 k7 g0 g1 g2 g3 g4 g5 g6); have hle := HS1.out.st.mill.le; clear HS; have HS := HS1; clear HS1 hS' hn' hm'; obtain ⟨k0, k1, k2, k3, k4, k5, k6, k7, g0, g1, g2, g3, g4, g5, g6⟩ := HS.out.cells)
    | (go_at_call 44; refine (c_clean p la xs lc _ _ HS.out.st.mill.src (by omega)).mono ?_; rintro e w1 ⟨y, n1, rfl, hy, ⟨hS', hn', hm'⟩⟩; have HY := Lib.hid hy; clear hy; have HS1 := Lib.hid (HS.out.step 4 hS' hn' hm'); (try clear k0 k1 k2 k3 k4 k5 k6 k7 g0 g1 g2 g3 g4 g5 g6); have hle := HS1.out.st.mill.le; clear HS; have HS := HS1; clear HS1 hS' hn' hm'; obtain ⟨k0, k1, k2, k3, k4, k5, k6, k7, g0, g1, g2, g3, g4, g5, g6⟩ := HS.out.cells))
                    go_meet
                    exact ⟨_, _, HS.out.set456 _ _ _ HY.out⟩
                  case rest =>
                    obtain ⟨r, m, HS2⟩ := hcut
                    have HS1 := Lib.hid HS2
                    clear HS2
                    (try clear HS k0 k1 k2 k3 k4 k5 k6 k7 g0 g1 g2 g3 g4 g5 g6)
                    have HS := HS1
                    clear HS1
                    have hle := HS.out.st.mill.le
                    obtain ⟨k0, k1, k2, k3, k4, k5, k6, k7, g0, g1, g2, g3, g4, g5, g6⟩ := HS.out.cells
                    go_upto_if 69 with (first
    | (go_at_call 11; refine (c_n p la xs lc _ _ _ HS.out.st.mill.src (by omega) (by decide) (by decide)).mono ?_; rintro e w1 ⟨x, n1, rfl, ⟨hx1, hx2⟩, hS', hn', hm'⟩; have HS1 := Lib.hid (HS.out.step 1 hS' hn' hm'); (try clear k0 k1 k2 k3 k4 k5 k6 k7 g0 g1 g2 g3 g4 g5 g6); have hle := HS1.out.st.mill.le; clear HS; have HS := HS1; clear HS1 hS' hn' hm'; obtain ⟨k0, k1, k2, k3, k4, k5, k6, k7, g0, g1, g2, g3, g4, g5, g6⟩ := HS.out.cells))
                    go_wp2
                    · go_meet
                      exact ⟨{ r with path := ⟨#[47]⟩ }, _, HS.out.set 5 (.string ⟨#[47]⟩) _ rfl ⟨rfl, rfl, rfl⟩ pathOk_slash HS.out.key⟩
                    · go_meet
                      exact ⟨r, _, HS.out⟩
              case rest =>
                obtain ⟨r, m, HS2⟩ := hcut
                have HS1 := Lib.hid HS2
                clear HS2
                (try clear HS k0 k1 k2 k3 k4 k5 k6 k7 g0 g1 g2 g3 g4 g5 g6)
                have HS := HS1
                clear HS1
                have hle := HS.out.st.mill.le
                obtain ⟨k0, k1, k2, k3, k4, k5, k6, k7, g0, g1, g2, g3, g4, g5, g6⟩ := HS.out.cells
                go_upto_if 73 with (first
    | (go_at_call 11; refine (c_n p la xs lc _ _ _ HS.out.st.mill.src (by omega) (by decide) (by decide)).mono ?_; rintro e w1 ⟨x, n1, rfl, ⟨hx1, hx2⟩, hS', hn', hm'⟩; have HS1 := Lib.hid (HS.out.step 1 hS' hn' hm'); (try clear k0 k1 k2 k3 k4 k5 k6 k7 g0 g1 g2 g3 g4 g5 g6); have hle := HS1.out.st.mill.le; clear HS; have HS := HS1; clear HS1 hS' hn' hm'; obtain ⟨k0, k1, k2, k3, k4, k5, k6, k7, g0, g1, g2, g3, g4, g5, g6⟩ := HS.out.cells))
                go_cut [] (fun wc => ∃ (r : Rule) (m : Nat), Aside (RSt W p la xs lc n 87 wc m b r j))
                case first =>
                  go_wp2_with (first
    | (go_at_call 28; refine (c_range p la xs lc _ _ _ _ HS.out.st.mill.src (by omega) (by decide) (by decide) (by decide)).mono ?_; rintro e w1 ⟨x, n1, rfl, _, hS', hn', hm'⟩; have HS1 := Lib.hid (HS.out.step 1 hS' hn' hm'); (try clear k0 k1 k2 k3 k4 k5 k6 k7 g0 g1 g2 g3 g4 g5 g6); have hle := HS1.out.st.mill.le; clear HS; have HS := HS1; clear HS1 hS' hn' hm'; obtain ⟨k0, k1, k2, k3, k4, k5, k6, k7, g0, g1, g2, g3, g4, g5, g6⟩ := HS.out.cells))
                  · go_meet
                    exact ⟨_, _, HS.out.set601 _ _ _⟩
                  · go_meet
                    exact ⟨r, _, HS.out.up 87 (by omega)⟩
                case rest =>
                  obtain ⟨r, m, HS2⟩ := hcut
                  have HS1 := Lib.hid HS2
                  clear HS2
                  (try clear HS k0 k1 k2 k3 k4 k5 k6 k7 g0 g1 g2 g3 g4 g5 g6)
                  have HS := HS1
                  clear HS1
                  have hle := HS.out.st.mill.le
                  obtain ⟨k0, k1, k2, k3, k4, k5, k6, k7, g0, g1, g2, g3, g4, g5, g6⟩ := HS.out.cells
                  have HZ1 := Lib.hid (HS.out.st.swap.row (cs' := #[.int .i64 r.list, .int .i64 r.action, .int .u64 r.calls, .slice r.ta r.tests.length r.tc, .int .i64 r.watch, .string r.path, .int .i64 r.perm, .string r.key]) (by decide) (fun x hx => by rw [List.mem_singleton.1 hx]; exact HS.out.ne))
                  have HF := Lib.hid ((HS.out.at_ (by omega)).keep (Keeps.grown (grown_setRow wc W.heap.size #[.int .i64 r.list, .int .i64 r.action, .int .u64 r.calls, .slice r.ta r.tests.length r.tc, .int .i64 r.watch, .string r.path, .int .i64 r.perm, .string r.key]) HS.out.st.box2 (by decide)))
                  go_wp2_with (first | (refine wpList_store_row (by rfl) 48 _ _ (by rfl) W.heap.size #[_, _, _, _, _, _, _, _] (by rfl) (by rfl) 48 _ HS.out.st.box2 (by kernel_rfl) (by rfl) (by kernel_rfl) ?_))
                  refine bodyPost_ret (v := r.v) (results_cell_row (p := 2) (ty := 48) (by kernel_rfl) _ _ W.heap.size _ _ _ _ (by rfl) HZ1.out.box Tryz.underlying48 rfl (by kernel_rfl)) rfl ?_
                  exact ⟨r, _, rfl, HF.out, HZ1.out.mill.up (by omega)⟩
end Go.Proofs.YtnbfenapnfbmeaaGreat
