/- Contracts: the source of contexts (kauditmake). -/
import Derived.Test.YtnbfenapnfbmeaaGreatQ6
import Derived.Test.YtnbfenapnfbmeaaGreatQ3
import Derived.Test.YtnbfenapnfbmeaaGreatG5
set_option linter.unusedSimpArgs false
set_option linter.unusedVariables false
namespace Go.Proofs.YtnbfenapnfbmeaaGreat
open Go.RowKit
def mkCtx (ph : Int) (x : Proc) (c : PCall) : Ctx := { phase := ph, pid := x.pid, ppid := x.ppid, uid := x.uid, euid := x.euid, gid := x.gid, egid := x.egid, auid := x.auid, ses := x.ses, cd := x.cd, ci := x.ci, comm := x.comm, exe := x.exe, oa := none, on := 0, oc := 0, audited := x.audited, call := c.number, a0 := c.a0, a1 := c.a1, a2 := c.a2, a3 := c.a3, pa := c.pa, pn := c.paths.length, pc := c.pc, ra := c.ra, rn := c.args.length, rc := c.rc, exit := 0, ia := none, ic := 0, items := [], type := 0 }
def zeroX : Ctx := mkCtx 0 zeroP zeroC
theorem info_item : (Tryz.prog.info? tItem).map (fun i => (i.zero, i.size, i.bytes)) = some (some itemZ0.v, 13, 128) := by kernel_rfl
theorem one_item (x : Item) : ∀ u ∈ x.cells, u.oneCell' = true := by intro u hu; simp [Item.cells] at hu; rcases hu with rfl | rfl | rfl | rfl | rfl | rfl | rfl | rfl | rfl | rfl | rfl | rfl | rfl <;> rfl
/-- A source and a context that is being made in block b. -/
structure XSt (W : World) (p : Nat) (la : Option Addr) (xs : List Int) (lc n k : Nat) (V : World) (m b : Nat) (X : Ctx) (j : Nat) : Prop where
  st : St W p la xs lc n k V m [(b, ctxBox X), (W.heap.size, ctxBox zeroX)]
  ne : b ≠ W.heap.size
  row : OwnRow V W.heap.size tItem 13 Item.cells (.slice X.ia X.items.length X.ic) X.items
  len : X.items.length = j
section
variable {W V U : World} {p lc n k m b j : Nat} {la : Option Addr} {xs : List Int} {X : Ctx}
theorem irow_kept {B : Nat} {a : Option Addr} {q : Nat} {ss : List Item} {row : Option Nat} (h : OwnRow V B tItem 13 Item.cells (.slice a ss.length q) ss) (hg : V.grownBy U row) (hr : ∀ k, row = some k → k < B ∨ (∃ cs t fz, V.heap[k]? = some (.cells cs t fz) ∧ t ≠ tItem)) : OwnRow U B tItem 13 Item.cells (.slice a ss.length q) ss := by
  refine World.ownsRow.kept h hg ?_
  rcases h.2 with ⟨he, _⟩ | ⟨g, cap, cur, he, hb, hgg, _⟩
  · exact .inl (by rw [he]; rfl)
  · refine .inr (fun e => ?_)
    rw [he] at e
    rcases hr g (by rw [← e]; rfl) with h1 | ⟨cs, t, fz, h1, h2⟩
    · omega
    · rw [hgg] at h1
      cases h1
      exact h2 rfl
theorem XSt.step {m' : Nat} (h : XSt W p la xs lc n k V m b X j) (i : Nat) (hs : Src U p la xs lc m') (hm : m' ≤ m + i) (hv : Moved p V U) : XSt W p la xs lc n (k + i) U m' b X j :=
  ⟨h.st.step i hs hm hv, h.ne, irow_kept h.row hv (fun q hq => .inl (by cases hq; exact h.st.hp)), h.len⟩
theorem XSt.up (h : XSt W p la xs lc n k V m b X j) (i : Nat) (hi : k ≤ i) : XSt W p la xs lc n i V m b X j := ⟨h.st.up i hi, h.ne, h.row, h.len⟩
theorem XSt.drew (h : XSt W p la xs lc n k V m b X j) : XSt W p la xs lc n k V.drew m b X j := ⟨h.st.drewN 1, h.ne, h.row, h.len⟩
theorem XSt.cells (h : XSt W p la xs lc n k V m b X j) :
    V.cell? ⟨b, 0, none⟩ = some (.int .i64 X.phase) ∧ V.cell? ⟨b, 22, none⟩ = some (.int .i64 X.exit) ∧ V.cell? ⟨b, 23, none⟩ = some (.slice X.ia X.items.length X.ic) ∧ V.cell? ⟨b, 24, none⟩ = some (.int .i64 X.type) ∧
    V.frozen? ⟨b, 0, none⟩ = false ∧ V.frozen? ⟨b, 22, none⟩ = false ∧ V.frozen? ⟨b, 23, none⟩ = false ∧ V.frozen? ⟨b, 24, none⟩ = false := by
  have c := cell_of_block h.st.box
  have f := frozen_of_block h.st.box
  exact ⟨c 0, c 22, c 23, c 24, f 0, f 22, f 23, f 24⟩
theorem XSt.set (h : XSt W p la xs lc n k V m b X j) (i : Nat) (v : Value) (X' : Ctx) (hc : (Ctx.vs X).setIfInBounds i v = Ctx.vs X') (ht : X'.ia = X.ia ∧ X'.ic = X.ic ∧ X'.items = X.items) : XSt W p la xs lc n k (V.setCell ⟨b, i, none⟩ v) m b X' j := by
  obtain ⟨t1, t2, t3⟩ := ht
  refine ⟨h.st.cell i v _ hc (by decide) (fun x hx => by rw [List.mem_singleton.1 hx]; exact Ne.symm h.ne), h.ne, ?_, by rw [t3]; exact h.len⟩
  rw [t1, t2, t3]
  exact irow_kept h.row (grown_setCell V b i v) (fun q hq => .inr (by cases hq; exact ⟨_, _, _, h.st.box, by decide⟩))
theorem xboxes_ne (b : Nat) (X : Ctx) (W : World) : ∀ x ∈ [(b, ctxBox X), (W.heap.size, ctxBox zeroX)], ∀ cs fz, x.2 ≠ .cells cs tItem fz := by
  intro x hx cs fz e
  rcases List.mem_cons.1 hx with rfl | hx
  · cases e
  · rw [List.mem_singleton.1 hx] at e; cases e
theorem XSt.box23 {o : Obj} (h : XSt W p la xs lc n k V m b X j) (hg : (V.alloc o).grownBy U (Value.slice X.ia X.items.length X.ic).ownBlock) :
    U.cell? ⟨b, 23, none⟩ = some (.slice X.ia X.items.length X.ic) ∧ U.frozen? ⟨b, 23, none⟩ = false := by
  have hst := (h.st.alloc o).grown (World.ownsRow.alloc h.row o) hg (xboxes_ne b X W)
  exact ⟨cell_of_block hst.box 23, frozen_of_block hst.box 23⟩
theorem XSt.grow {g cap : Nat} {s : Item} {o : Obj} (h : XSt W p la xs lc n k V m b X j)
    (hown : U.ownsRow W.heap.size tItem 13 (.slice (some ⟨g, 0, none⟩) (X.items.length + 1) cap) (X.items.length + 1) (X.items.flatMap Item.cells ++ s.cells))
    (hg : (V.alloc o).grownBy U (Value.slice X.ia X.items.length X.ic).ownBlock) :
    XSt W p la xs lc n k (U.setCell ⟨b, 23, none⟩ (.slice (some ⟨g, 0, none⟩) (X.items.length + 1) cap)) m b { X with ia := some ⟨g, 0, none⟩, ic := cap, items := X.items ++ [s] } (j + 1) := by
  have hst := (h.st.alloc o).grown (World.ownsRow.alloc h.row o) hg (xboxes_ne b X W)
  have hP : OwnRow U W.heap.size tItem 13 Item.cells (.slice (some ⟨g, 0, none⟩) (X.items ++ [s]).length cap) (X.items ++ [s]) := by
    unfold OwnRow
    rw [List.flatMap_append, List.length_append]
    simpa using hown
  exact ⟨hst.cell 23 _ _ (by simp) (by decide) (fun x hx => by rw [List.mem_singleton.1 hx]; exact Ne.symm h.ne), h.ne, irow_kept hP (grown_setCell U b 23 _) (fun q hq => .inr (by cases hq; exact ⟨_, _, _, hst.box, by decide⟩)), by simp [h.len]⟩
end
def CtxPost (W : World) (p : Nat) (la : Option Addr) (xs : List Int) (lc n k : Nat) (e : Ending) (W' : World) : Prop :=
  ∃ (X : Ctx) (n' : Nat), e = .returned X.v ∧ ItemsAt W' X.ia X.items ∧ Mill W p la xs lc n k W' n'
set_option maxRecDepth 100000 in
set_option maxHeartbeats 4000000 in
theorem c_context (p : Nat) (la : Option Addr) (xs : List Int) (lc n : Nat) (W : World) (hS : Src W p la xs lc n) (hn : n ≤ 999990000) :
    Calls Tryz.prog 9 #[.pointer (some ⟨p, 0, none⟩)] W (CtxPost W p la xs lc n 220) := by
  have HS := Lib.hid ((St.start hS).new (ctxBox zeroX))
  clear hS
  obtain ⟨i0, hi, hz0, hz1, hz2⟩ := info_parts info_item
  have HI := Lib.hid hi
  clear hi
  go_enter Tryz.func9, Tryz.ntmps9
  go_upto_region 1 with fail
  obtain ⟨W1, hW1⟩ : ∃ W1, W1 = W.alloc (ctxBox zeroX) := ⟨_, rfl⟩
  change Code.wp _ _ _ _ (W.alloc (ctxBox zeroX))
  rw [← hW1] at HS ⊢
  clear hW1
  have hle := HS.out.mill.le
  go_cut [3] (fun s3 wc => ∃ (b : Nat), s3 = .pointer (some ⟨b, 0, none⟩) ∧ ∃ (X : Ctx) (m : Nat), Aside (XSt W p la xs lc n 81 wc m b X 0))
  case first =>
    go_wp2_with (first
      | (go_at_call 28; refine (c_range p la xs lc _ _ _ _ HS.out.mill.src (by omega) (by decide) (by decide) (by decide)).mono ?_; rintro e w1 ⟨ph, n1, rfl, _, hS', hn', hm'⟩; have HS1 := Lib.hid (HS.out.step 1 hS' hn' hm'); clear HS hle; have HS := HS1; have hle := HS.out.mill.le; clear HS1 hS' hn' hm')
      | (go_at_call 29; refine (c_identities p la xs lc _ _ HS.out.mill.src (by omega)).mono ?_; rintro e w1 ⟨P, n1, rfl, ⟨hS', hn', hm'⟩⟩; have HS1 := Lib.hid (HS.out.step 20 hS' hn' hm'); clear HS hle; have HS := HS1; have hle := HS.out.mill.le; clear HS1 hS' hn' hm')
      | (go_at_call 30; refine (c_call p la xs lc _ _ HS.out.mill.src (by omega)).mono ?_; rintro e w1 ⟨cc, n1, rfl, _, ⟨hS', hn', hm'⟩⟩; have HS1 := Lib.hid (HS.out.step 60 hS' hn' hm'); clear HS hle; have HS := HS1; have hle := HS.out.mill.le; clear HS1 hS' hn' hm')
      | (refine wpList_build (by rfl) 38 _ (by rfl) (by kernel_rfl) ?_)
      | (refine wpList_store_row (by rfl) 38 _ _ (by rfl) _ (mkCtx ph P cc).vs (by rfl) (by kernel_rfl) 38 _ (heap_new _ _) (by kernel_rfl) (by rfl) (by kernel_rfl) ?_; rw [setRow_new]))
    go_meet
    exact ⟨_, rfl, mkCtx ph P cc, _, ⟨HS.out.new _, Nat.ne_of_gt (lt_of_some HS.out.box), World.ownsRow_nil _ _ _ _, rfl⟩⟩
  case rest =>
    obtain ⟨b, rfl, hcut⟩ := hcut
    clear hle
    obtain ⟨X, m, HS2⟩ := hcut
    (try clear HS k0 k22 k23 k24 g0 g22 g23 g24)
    have HS : Hid (XSt W p la xs lc n 81 wc m b X 0) := HS2
    have hle := HS.out.st.mill.le
    clear HS2
    obtain ⟨k0, k22, k23, k24, g0, g22, g23, g24⟩ := HS.out.cells
    go_upto_if 14 with (go_at_call 11; refine (c_n p la xs lc _ _ _ HS.out.st.mill.src (by omega) (by decide) (by decide)).mono ?_; rintro e w1 ⟨x, n1, rfl, hx, hS', hn', hm'⟩; obtain ⟨hxl, hxh⟩ := hx; have HS1 := Lib.hid (HS.out.step 1 hS' hn' hm'); (try clear k0 k22 k23 k24 g0 g22 g23 g24); have hle := HS1.out.st.mill.le; clear HS; have HS := HS1; clear HS1 hS' hn' hm'; (try obtain ⟨k0, k22, k23, k24, g0, g22, g23, g24⟩ := HS.out.cells))
    go_cut [] (fun wc => ∃ (X : Ctx) (m : Nat), Aside (XSt W p la xs lc n 82 wc m b X 0))
    case first =>
      go_wp2
      · go_meet
        exact ⟨{ X with phase := 2 }, _, HS.out.set 0 (.int .i64 2) { X with phase := 2 } rfl ⟨rfl, rfl, rfl⟩⟩
      · go_meet
        exact ⟨X, _, HS.out⟩
    case rest =>
      obtain ⟨X, m, HS2⟩ := hcut
      (try clear HS k0 k22 k23 k24 g0 g22 g23 g24)
      have HS : Hid (XSt W p la xs lc n 82 wc m b X 0) := HS2
      have hle := HS.out.st.mill.le
      clear HS2
      obtain ⟨k0, k22, k23, k24, g0, g22, g23, g24⟩ := HS.out.cells
      go_upto_if 18 with fail
      go_cut [] (fun wc => ∃ (X : Ctx) (m j : Nat), j ≤ 2 ∧ Aside (XSt W p la xs lc n 210 wc m b X j))
      case first =>
        by_cases hph : X.phase = 2
        · go_upto_region 6 with (go_at_call 31; refine (c_pickA p la xs lc _ _ _ _ HS.out.st.mill.src (by omega) (by kernel_rfl) (by kernel_rfl) (by decide) (by decide)).mono ?_; rintro e w1 ⟨xe, n1, rfl, _, hS', hn', hm'⟩; have HS1 := Lib.hid (HS.out.step 1 hS' hn' hm'); (try clear k0 k22 k23 k24 g0 g22 g23 g24); have hle := HS1.out.st.mill.le; clear HS; have HS := HS1; clear HS1 hS' hn' hm'; (try obtain ⟨k0, k22, k23, k24, g0, g22, g23, g24⟩ := HS.out.cells))
          have HS1 := Lib.hid (HS.out.set 22 (.int .i64 xe) { X with exit := xe } rfl ⟨rfl, rfl, rfl⟩)
          generalize hW2 : World.setCell _ _ _ = W2 at HS1 ⊢
          have HS2 := Lib.hid (show ∃ X, XSt W p la xs lc n 83 W2 n1 b X 0 from ⟨_, HS1.out⟩)
          clear HS HS1 hW2 hph k0 k22 k23 k24 g0 g22 g23 g24
          obtain ⟨X, HS3⟩ := HS2.out
          have HS := Lib.hid HS3
          clear HS2 HS3
          obtain ⟨k0, k22, k23, k24, g0, g22, g23, g24⟩ := HS.out.cells
          go_upto_block 0 with (go_at_call 11; refine (c_n p la xs lc _ _ _ HS.out.st.mill.src (by omega) (by decide) (by decide)).mono ?_; rintro e w1 ⟨xn, n1, rfl, hx, hS', hn', hm'⟩; obtain ⟨hxl, hxh⟩ := hx; have HS1 := Lib.hid (HS.out.step 1 hS' hn' hm'); (try clear k0 k22 k23 k24 g0 g22 g23 g24); have hle := HS1.out.st.mill.le; clear HS; have HS := HS1; clear HS1 hS' hn' hm'; (try obtain ⟨k0, k22, k23, k24, g0, g22, g23, g24⟩ := HS.out.cells))
          go_wp2_with fail
          go_loopg [4] 2 (fun gg s4 wr => ∃ (j : Nat) (X : Ctx) (m : Nat), j + gg = 2 ∧ (j : Int) ≤ xn ∧ s4 = .int .i64 (xn - j) ∧ Aside (XSt W p la xs lc n (84 + 60 * j) wr m b X j))
          case atStart => exact ⟨0, X, _, rfl, by omega, by go_num, HS.out⟩
          case round =>
            clear k0 k22 k23 k24 g0 g22 g23 g24 hle
            obtain ⟨j, X, m, hg, hja, rfl, HS2⟩ := hrel
            clear HS
            have HS : Hid (XSt W p la xs lc n (84 + 60 * j) wr m b X j) := HS2
            clear HS2
            have hle := HS.out.st.mill.le
            obtain ⟨k0, k22, k23, k24, g0, g22, g23, g24⟩ := HS.out.cells
            by_cases hlt : (0 : Int) < xn - j
            · go_upto_region 9 with fail
              have HD := Lib.hid HS.out.drew
              have hl := HS.out.len
              subst hl
              go_region_law (first
                | (go_simp; go_at_call 32; refine (c_item p la xs lc m _ HD.out.st.mill.src (by omega)).mono ?_; rintro e w1 ⟨t, n1, rfl, ⟨hS', hn', hm'⟩⟩; have HS1 := Lib.hid (HD.out.step 60 hS' hn' hm'); obtain ⟨q0, q1, q2, q3, r0, r1, r2, r3⟩ := HS1.out.cells; clear hS' hn' hm' q0 q1 q3 r0 r1 r3; have hbw : b < w1.heap.size := lt_of_some HS1.out.st.box; have qa : ∀ o : Obj, (w1.alloc o).cell? ⟨b, 23, none⟩ = some (Value.slice X.ia X.items.length X.ic) := fun o => (cell_of_block (HS1.out.st.alloc o).box 23))
                | (refine step_append_lies _ (by rfl) _ _ 36 (by rfl) W.heap.size tItem i0 _ 13 128 Tryz.underlying36 HI.out hz0 hz1 hz2 rfl (by decide) (.slice X.ia X.items.length X.ic) X.items.length (X.items.flatMap Item.cells) (by rfl) (World.ownsRow.alloc HS1.out.row _) ⟨w1.heap.size, 0, none⟩ 1 1 t.cells (by rfl) rfl (news_new _ _ _) (one_item t) (by decide) (by unfold maxLen; omega) (by omega) (by rw [World.size_alloc]; exact Nat.le_succ_of_le HS1.out.st.mill.moved.size) _ rfl ?_; intro g cap w4 hown4 hg4 hgb hlt4; obtain ⟨qc, qf⟩ := HS1.out.box23 hg4; have HG := Lib.hid (HS1.out.grow hown4 hg4)))
              all_goals
                have HF := Lib.hid (HG.out.up (84 + 60 * (X.items.length + 1)) (by omega))
                go_wp2
                go_roundg (gk - 1)
                case measure => omega
                case rel => exact ⟨X.items.length + 1, _, _, by omega, by omega, by go_num, HF.out⟩
            · go_wp2
              go_meet
              exact ⟨X, m, j, by omega, HS.out.up 210 (by omega)⟩
        · go_wp2
          go_meet
          exact ⟨X, _, 0, by omega, HS.out.up 210 (by omega)⟩
      case rest =>
        obtain ⟨X, m, j, hj, hcut⟩ := hcut
        have hcut : ∃ (X : Ctx) (m : Nat), Aside (XSt W p la xs lc n 210 wc m b X j) := ⟨X, m, hcut⟩
        obtain ⟨X, m, HS2⟩ := hcut
        (try clear HS k0 k22 k23 k24 g0 g22 g23 g24)
        have HS : Hid (XSt W p la xs lc n 210 wc m b X j) := HS2
        have hle := HS.out.st.mill.le
        clear HS2
        obtain ⟨k0, k22, k23, k24, g0, g22, g23, g24⟩ := HS.out.cells
        go_upto_if 38 with (go_at_call 11; refine (c_n p la xs lc _ _ _ HS.out.st.mill.src (by omega) (by decide) (by decide)).mono ?_; rintro e w1 ⟨x, n1, rfl, hx, hS', hn', hm'⟩; obtain ⟨hxl, hxh⟩ := hx; have HS1 := Lib.hid (HS.out.step 1 hS' hn' hm'); (try clear k0 k22 k23 k24 g0 g22 g23 g24); have hle := HS1.out.st.mill.le; clear HS; have HS := HS1; clear HS1 hS' hn' hm'; (try obtain ⟨k0, k22, k23, k24, g0, g22, g23, g24⟩ := HS.out.cells))
        go_cut [] (fun wc => ∃ (X : Ctx) (m : Nat), Aside (XSt W p la xs lc n 212 wc m b X j))
        case first =>
          go_wp2_with (go_at_call 31; refine (c_pickA p la xs lc _ _ _ _ HS.out.st.mill.src (by omega) (by kernel_rfl) (by kernel_rfl) (by decide) (by decide)).mono ?_; rintro e w1 ⟨xt, n1, rfl, _, hS', hn', hm'⟩; have HS1 := Lib.hid (HS.out.step 1 hS' hn' hm'); (try clear k0 k22 k23 k24 g0 g22 g23 g24); have hle := HS1.out.st.mill.le; clear HS; have HS := HS1; clear HS1 hS' hn' hm'; (try obtain ⟨k0, k22, k23, k24, g0, g22, g23, g24⟩ := HS.out.cells))
          · go_meet
            exact ⟨{ X with type := _ }, _, HS.out.set 24 (.int .i64 xt) { X with type := xt } rfl ⟨rfl, rfl, rfl⟩⟩
          · go_meet
            exact ⟨X, _, HS.out.up 212 (by omega)⟩
        case rest =>
          obtain ⟨X, m, HS2⟩ := hcut
          (try clear HS k0 k22 k23 k24 g0 g22 g23 g24)
          have HS : Hid (XSt W p la xs lc n 212 wc m b X j) := HS2
          have hle := HS.out.st.mill.le
          clear HS2
          obtain ⟨k0, k22, k23, k24, g0, g22, g23, g24⟩ := HS.out.cells
          clear k0 k22 k23 k24 g0 g22 g23 g24
          have hk := Keeps.grown (E := tItem) (grown_setRow wc W.heap.size (Ctx.vs X)) HS.out.st.box2 (by decide)
          obtain ⟨ia, ic, hie, _, hirow⟩ := HS.out.row.shape (fun _ => rfl)
          injection hie with h1 h2 h3
          subst h1
          have hlen := HS.out.len
          have HF := Lib.hid (show ItemsAt (wc.setRow W.heap.size (Ctx.vs X)) X.ia X.items from ⟨by omega, hirow.keep hk⟩)
          clear hk hirow hlen
          go_wp2_with (first
            | (refine wpList_load_row (by rfl) 38 _ (by rfl) b (by rfl) 38 X.vs (0, 0) _ HS.out.st.box Tryz.underlying38 rfl (by kernel_rfl) ?_)
            | (refine wpList_store_row (by rfl) 38 _ _ (by rfl) W.heap.size X.vs (by rfl) (by rfl) 38 _ HS.out.st.box2 (by kernel_rfl) (by rfl) (by kernel_rfl) ?_))
          refine bodyPost_ret (v := .agg X.vs) (results_cell_row (p := 2) (ty := 38) (by kernel_rfl) _ _ W.heap.size _ _ _ _ (by rfl) (setRow_heap _ W.heap.size _ _ 38 (0, 0) HS.out.st.box2) Tryz.underlying38 rfl (by kernel_rfl)) rfl ?_
          exact ⟨X, _, rfl, HF.out, (HS.out.st.swap.row (by decide) (fun x hx => by rw [List.mem_singleton.1 hx]; exact HS.out.ne)).mill.up (by omega)⟩
end Go.Proofs.YtnbfenapnfbmeaaGreat
