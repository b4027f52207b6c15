/- Contracts: the source of calls (kauditmake). -/
import Derived.Test.YtnbfenapnfbmeaaGreatQ1
import Derived.Test.YtnbfenapnfbmeaaGreatQ3
import Derived.Test.YtnbfenapnfbmeaaGreatK4
import Derived.Deep.RegionLaw
set_option linter.unusedSimpArgs false
set_option linter.unusedVariables false
namespace Go.Proofs.YtnbfenapnfbmeaaGreat
open Go.RowKit
structure PCall where
  number : Int
  a0 : Int
  a1 : Int
  a2 : Int
  a3 : Int
  pa : Option Addr
  pc : Nat
  paths : List ByteArray
  ra : Option Addr
  rc : Nat
  args : List ByteArray
abbrev PCall.vs (c : PCall) : Array Value := #[.int .i64 c.number, .int .i64 c.a0, .int .i64 c.a1, .int .i64 c.a2, .int .i64 c.a3, .slice c.pa c.paths.length c.pc, .slice c.ra c.args.length c.rc]
abbrev tCall : TypeId := 35
abbrev callBox (c : PCall) : Obj := .cells #[.int .i64 c.number, .int .i64 c.a0, .int .i64 c.a1, .int .i64 c.a2, .int .i64 c.a3, .slice c.pa c.paths.length c.pc, .slice c.ra c.args.length c.rc] tCall
def zeroC : PCall := ⟨0, 0, 0, 0, 0, none, 0, [], none, 0, []⟩
def TextOk (B : Nat) (s : ByteArray) : Prop := s.size ≤ B ∧ Ascii s
abbrev SOwn (V : World) (B : Nat) (a : Option Addr) (c : Nat) (ss : List ByteArray) : Prop := OwnRow V B tString 1 strCells (.slice a ss.length c) ss
/-- Where an own row of a call's lies, other rows and boxes are left alone by its growing. -/
theorem St.grown {W V U : World} {p lc n k m : Nat} {la : Option Addr} {xs : List Int} {bs : List (Nat × Obj)} {E : TypeId} {sz q : Nat} {v : Value} {ys : List Value} (h : St W p la xs lc n k V m bs) (hrow : V.ownsRow W.heap.size E sz v q ys) (hg : V.grownBy U v.ownBlock)
    (hbs : ∀ x ∈ bs, ∀ cs fz, x.2 ≠ .cells cs E fz) : St W p la xs lc n k U m bs := by
  have hblk : ∀ q, v.ownBlock = some q → W.heap.size ≤ q ∧ ∃ cs fz, V.heap[q]? = some (.cells cs E fz) := by
    intro q hq
    rcases hrow.2 with ⟨he, _⟩ | ⟨g', cap', cur, he, hb, hgg, _⟩
    · rw [he] at hq; cases hq
    · rw [he] at hq; cases hq; exact ⟨hb, _, _, hgg⟩
  refine ⟨⟨⟨?_, h.mill.src.row.keep ?_, h.mill.src.le⟩, h.mill.le, ?_⟩, h.hp, fun x hx => ⟨(h.at' x hx).1, ?_⟩⟩
  · refine (hg.block p (lt_of_some h.mill.src.blk) (fun e => ?_)).trans h.mill.src.blk
    have := (hblk p e.symm).1
    have := h.hp
    omega
  · intro b' hb'
    refine hg.block b' (Nat.lt_trans hb' (lt_of_some h.mill.src.blk)) (fun e => ?_)
    have := (hblk b' e.symm).1
    have := h.hp
    omega
  · refine ⟨hg.os.trans h.mill.moved.os, hg.tape.trans h.mill.moved.tape, hg.output.trans h.mill.moved.output, Nat.le_trans h.mill.moved.size hg.size, fun i hi hne => ?_⟩
    refine (hg.block i (Nat.lt_of_lt_of_le hi h.mill.moved.size) (fun e => ?_)).trans (h.mill.moved.block i hi hne)
    have := (hblk i e.symm).1
    omega
  · refine (hg.block x.1 (lt_of_some (h.at' x hx).2) (fun e => ?_)).trans (h.at' x hx).2
    obtain ⟨_, cs2, fz2, h3⟩ := hblk x.1 e.symm
    have h4 := (h.at' x hx).2
    rw [h3] at h4
    exact hbs x hx cs2 fz2 (Option.some.inj h4).symm
/-- A source and a call that is being made in block b. -/
structure CSt (W : World) (p : Nat) (la : Option Addr) (xs : List Int) (lc n k : Nat) (V : World) (m b : Nat) (c : PCall) (j1 j2 : Nat) : Prop where
  st : St W p la xs lc n k V m [(b, callBox c), (W.heap.size, callBox zeroC)]
  ne : b ≠ W.heap.size
  prow : SOwn V W.heap.size c.pa c.pc c.paths
  arow : SOwn V W.heap.size c.ra c.rc c.args
  apart : ∀ g, (Value.slice c.ra c.args.length c.rc).ownBlock = some g → (Value.slice c.pa c.paths.length c.pc).ownBlock ≠ some g
  plen : c.paths.length = j1
  alen : c.args.length = j2
  ptxt : ∀ s ∈ c.paths, TextOk 60 s
  atxt : ∀ s ∈ c.args, TextOk 10 s
section
variable {W V U : World} {p lc n k m b j1 j2 : Nat} {la : Option Addr} {xs : List Int} {c : PCall}
theorem SOwn.kept {B : Nat} {a : Option Addr} {q : Nat} {ss : List ByteArray} {row : Option Nat} (h : SOwn V B a q ss) (hg : V.grownBy U row) (hr : ∀ k, row = some k → k < B ∨ (∃ cs t fz, V.heap[k]? = some (.cells cs t fz) ∧ t ≠ tString) ∨ (Value.slice a ss.length q).ownBlock ≠ some k) : SOwn U B a q ss := by
  refine World.ownsRow.kept h hg ?_
  rcases h.2 with ⟨he, _⟩ | ⟨g, cap, cur, he, hb, hgg, _⟩
  · exact .inl (by rw [he]; rfl)
  · refine .inr (fun e => ?_)
    rw [he] at e
    rcases hr g (by rw [← e]; rfl) with h1 | ⟨cs, t, fz, h1, h2⟩ | h1
    · omega
    · rw [hgg] at h1
      cases h1
      exact h2 rfl
    · exact h1 (by rw [he]; rfl)
theorem CSt.step {m' : Nat} (h : CSt W p la xs lc n k V m b c j1 j2) (i : Nat) (hs : Src U p la xs lc m') (hm : m' ≤ m + i) (hv : Moved p V U) : CSt W p la xs lc n (k + i) U m' b c j1 j2 :=
  ⟨h.st.step i hs hm hv, h.ne, h.prow.kept hv (fun q hq => .inl (by cases hq; exact h.st.hp)), h.arow.kept hv (fun q hq => .inl (by cases hq; exact h.st.hp)), h.apart, h.plen, h.alen, h.ptxt, h.atxt⟩
theorem CSt.up (h : CSt W p la xs lc n k V m b c j1 j2) (i : Nat) (hi : k ≤ i) : CSt W p la xs lc n i V m b c j1 j2 := ⟨h.st.up i hi, h.ne, h.prow, h.arow, h.apart, h.plen, h.alen, h.ptxt, h.atxt⟩
theorem CSt.drew (h : CSt W p la xs lc n k V m b c j1 j2) : CSt W p la xs lc n k V.drew m b c j1 j2 := ⟨h.st.drewN 1, h.ne, h.prow, h.arow, h.apart, h.plen, h.alen, h.ptxt, h.atxt⟩
theorem CSt.cells (h : CSt W p la xs lc n k V m b c j1 j2) :
    V.cell? ⟨b, 0, none⟩ = some (.int .i64 c.number) ∧ V.cell? ⟨b, 1, none⟩ = some (.int .i64 c.a0) ∧ V.cell? ⟨b, 2, none⟩ = some (.int .i64 c.a1) ∧ V.cell? ⟨b, 3, none⟩ = some (.int .i64 c.a2) ∧ V.cell? ⟨b, 4, none⟩ = some (.int .i64 c.a3) ∧ V.cell? ⟨b, 5, none⟩ = some (.slice c.pa c.paths.length c.pc) ∧ V.cell? ⟨b, 6, none⟩ = some (.slice c.ra c.args.length c.rc) ∧
    V.frozen? ⟨b, 0, none⟩ = false ∧ V.frozen? ⟨b, 1, none⟩ = false ∧ V.frozen? ⟨b, 2, none⟩ = false ∧ V.frozen? ⟨b, 3, none⟩ = false ∧ V.frozen? ⟨b, 4, none⟩ = false ∧ V.frozen? ⟨b, 5, none⟩ = false ∧ V.frozen? ⟨b, 6, none⟩ = false := by
  have c := cell_of_block h.st.box
  have f := frozen_of_block h.st.box
  exact ⟨c 0, c 1, c 2, c 3, c 4, c 5, c 6, f 0, f 1, f 2, f 3, f 4, f 5, f 6⟩
theorem CSt.set (h : CSt W p la xs lc n k V m b c j1 j2) (i : Nat) (v : Value) (c' : PCall) (hc : (#[.int .i64 c.number, .int .i64 c.a0, .int .i64 c.a1, .int .i64 c.a2, .int .i64 c.a3, .slice c.pa c.paths.length c.pc, .slice c.ra c.args.length c.rc] : Array Value).setIfInBounds i v = #[.int .i64 c'.number, .int .i64 c'.a0, .int .i64 c'.a1, .int .i64 c'.a2, .int .i64 c'.a3, .slice c'.pa c'.paths.length c'.pc, .slice c'.ra c'.args.length c'.rc])
    (ht : c'.pa = c.pa ∧ c'.pc = c.pc ∧ c'.paths = c.paths ∧ c'.ra = c.ra ∧ c'.rc = c.rc ∧ c'.args = c.args) : CSt W p la xs lc n k (V.setCell ⟨b, i, none⟩ v) m b c' j1 j2 := by
  obtain ⟨t1, t2, t3, t4, t5, t6⟩ := ht
  have hk := fun q (hq : some b = some q) => (.inr (.inl (by cases hq; exact ⟨_, _, _, h.st.box, by decide⟩)) : q < W.heap.size ∨ (∃ cs t fz, V.heap[q]? = some (.cells cs t fz) ∧ t ≠ tString) ∨ (Value.slice c.pa c.paths.length c.pc).ownBlock ≠ some q)
  have hk2 := fun q (hq : some b = some q) => (.inr (.inl (by cases hq; exact ⟨_, _, _, h.st.box, by decide⟩)) : q < W.heap.size ∨ (∃ cs t fz, V.heap[q]? = some (.cells cs t fz) ∧ t ≠ tString) ∨ (Value.slice c.ra c.args.length c.rc).ownBlock ≠ some q)
  refine ⟨h.st.cell i v _ hc (by decide) (fun x hx => by rw [List.mem_singleton.1 hx]; exact Ne.symm h.ne), h.ne, ?_, ?_, by rw [t1, t2, t3, t4, t5, t6]; exact h.apart, by rw [t3]; exact h.plen, by rw [t6]; exact h.alen, by rw [t3]; exact h.ptxt, by rw [t6]; exact h.atxt⟩
  · rw [t1, t2, t3]; exact h.prow.kept (grown_setCell V b i v) hk
  · rw [t4, t5, t6]; exact h.arow.kept (grown_setCell V b i v) hk2
theorem CSt.setA (h : CSt W p la xs lc n k V m b c j1 j2) (x0 x1 x2 x3 : Int) :
    CSt W p la xs lc n k ((((V.setCell ⟨b, 1, none⟩ (.int .i64 x0)).setCell ⟨b, 2, none⟩ (.int .i64 x1)).setCell ⟨b, 3, none⟩ (.int .i64 x2)).setCell ⟨b, 4, none⟩ (.int .i64 x3)) m b { c with a0 := x0, a1 := x1, a2 := x2, a3 := x3 } j1 j2 :=
  (((h.set 1 (.int .i64 x0) { c with a0 := x0 } rfl ⟨rfl, rfl, rfl, rfl, rfl, rfl⟩).set 2 (.int .i64 x1) { c with a0 := x0, a1 := x1 } rfl ⟨rfl, rfl, rfl, rfl, rfl, rfl⟩).set 3 (.int .i64 x2) { c with a0 := x0, a1 := x1, a2 := x2 } rfl ⟨rfl, rfl, rfl, rfl, rfl, rfl⟩).set 4 (.int .i64 x3) _ rfl ⟨rfl, rfl, rfl, rfl, rfl, rfl⟩
theorem boxes_ne (b : Nat) (c : PCall) (W : World) : ∀ x ∈ [(b, callBox c), (W.heap.size, callBox zeroC)], ∀ cs fz, x.2 ≠ .cells cs tString fz := by
  intro x hx cs fz e
  rcases List.mem_cons.1 hx with rfl | hx
  · cases e
  · rw [List.mem_singleton.1 hx] at e; cases e
theorem CSt.growP {g cap : Nat} {s : ByteArray} {o : Obj} (h : CSt W p la xs lc n k V m b c j1 j2) (hs : TextOk 60 s)
    (hown : U.ownsRow W.heap.size tString 1 (.slice (some ⟨g, 0, none⟩) (c.paths.length + 1) cap) (c.paths.length + 1) (c.paths.flatMap strCells ++ strCells s))
    (hg : (V.alloc o).grownBy U (Value.slice c.pa c.paths.length c.pc).ownBlock) (hgb : (Value.slice c.pa c.paths.length c.pc).ownBlock = some g ∨ g = (V.alloc o).heap.size) :
    CSt W p la xs lc n k (U.setCell ⟨b, 5, none⟩ (.slice (some ⟨g, 0, none⟩) (c.paths.length + 1) cap)) m b { c with pa := some ⟨g, 0, none⟩, pc := cap, paths := c.paths ++ [s] } (j1 + 1) j2 := by
  have hrow : (V.alloc o).ownsRow W.heap.size tString 1 (.slice c.pa c.paths.length c.pc) c.paths.length (c.paths.flatMap strCells) := World.ownsRow.alloc h.prow o
  have harow : SOwn (V.alloc o) W.heap.size c.ra c.rc c.args := World.ownsRow.alloc h.arow o
  have hst := (h.st.alloc o).grown hrow hg (boxes_ne b c W)
  have hU : SOwn U W.heap.size c.ra c.rc c.args := harow.kept hg (fun q hq => .inr (.inr (fun e => h.apart q e hq)))
  have hP : SOwn U W.heap.size (some ⟨g, 0, none⟩) cap (c.paths ++ [s]) := by
    show OwnRow _ _ _ _ _ _ _
    unfold OwnRow
    rw [List.flatMap_append, List.length_append]
    simpa using hown
  have hbx : ∀ q, some b = some q → ∃ cs t fz, U.heap[q]? = some (.cells cs t fz) ∧ t ≠ tString := fun q hq => by cases hq; exact ⟨_, _, _, hst.box, by decide⟩
  refine ⟨hst.cell 5 _ _ (by simp) (by decide) (fun x hx => by rw [List.mem_singleton.1 hx]; exact Ne.symm h.ne), h.ne, hP.kept (grown_setCell U b 5 _) (fun q hq => .inr (.inl (hbx q hq))), hU.kept (grown_setCell U b 5 _) (fun q hq => .inr (.inl (hbx q hq))), ?_, by simp [h.plen], h.alen, ?_, h.atxt⟩
  · intro q hq e
    have e : g = q := by injection e
    subst e
    rcases hgb with h1 | h1
    · exact h.apart g hq h1
    · have := (World.ownsRow.lt h.arow g hq).2
      rw [World.size_alloc] at h1
      omega
  · intro x hx
    rcases List.mem_append.1 hx with hx | hx
    · exact h.ptxt x hx
    · rw [List.mem_singleton.1 hx]; exact hs
theorem CSt.growA {g cap : Nat} {s : ByteArray} {o : Obj} (h : CSt W p la xs lc n k V m b c j1 j2) (hs : TextOk 10 s)
    (hown : U.ownsRow W.heap.size tString 1 (.slice (some ⟨g, 0, none⟩) (c.args.length + 1) cap) (c.args.length + 1) (c.args.flatMap strCells ++ strCells s))
    (hg : (V.alloc o).grownBy U (Value.slice c.ra c.args.length c.rc).ownBlock) (hgb : (Value.slice c.ra c.args.length c.rc).ownBlock = some g ∨ g = (V.alloc o).heap.size) :
    CSt W p la xs lc n k (U.setCell ⟨b, 6, none⟩ (.slice (some ⟨g, 0, none⟩) (c.args.length + 1) cap)) m b { c with ra := some ⟨g, 0, none⟩, rc := cap, args := c.args ++ [s] } j1 (j2 + 1) := by
  have hrow : (V.alloc o).ownsRow W.heap.size tString 1 (.slice c.ra c.args.length c.rc) c.args.length (c.args.flatMap strCells) := World.ownsRow.alloc h.arow o
  have hprow : SOwn (V.alloc o) W.heap.size c.pa c.pc c.paths := World.ownsRow.alloc h.prow o
  have hst := (h.st.alloc o).grown hrow hg (boxes_ne b c W)
  have hU : SOwn U W.heap.size c.pa c.pc c.paths := hprow.kept hg (fun q hq => .inr (.inr (h.apart q hq)))
  have hP : SOwn U W.heap.size (some ⟨g, 0, none⟩) cap (c.args ++ [s]) := by
    show OwnRow _ _ _ _ _ _ _
    unfold OwnRow
    rw [List.flatMap_append, List.length_append]
    simpa using hown
  have hbx : ∀ q, some b = some q → ∃ cs t fz, U.heap[q]? = some (.cells cs t fz) ∧ t ≠ tString := fun q hq => by cases hq; exact ⟨_, _, _, hst.box, by decide⟩
  refine ⟨hst.cell 6 _ _ (by simp) (by decide) (fun x hx => by rw [List.mem_singleton.1 hx]; exact Ne.symm h.ne), h.ne, hU.kept (grown_setCell U b 6 _) (fun q hq => .inr (.inl (hbx q hq))), hP.kept (grown_setCell U b 6 _) (fun q hq => .inr (.inl (hbx q hq))), ?_, h.plen, by simp [h.alen], h.ptxt, ?_⟩
  · intro q hq e
    have hq : g = q := by injection hq
    subst hq
    rcases hgb with h1 | h1
    · exact h.apart g h1 e
    · have := (World.ownsRow.lt h.prow g e).2
      rw [World.size_alloc] at h1
      omega
  · intro x hx
    rcases List.mem_append.1 hx with hx | hx
    · exact h.atxt x hx
    · rw [List.mem_singleton.1 hx]; exact hs
end
end Go.Proofs.YtnbfenapnfbmeaaGreat
/- Contracts: the source of calls (kauditmake): the walk. -/
set_option linter.unusedSimpArgs false
set_option linter.unusedVariables false
namespace Go.Proofs.YtnbfenapnfbmeaaGreat
open Go.RowKit
def TextsAt (w : World) (a : Option Addr) (ss : List ByteArray) : Prop := RowAt w tString 1 strCells a ss
/-- A call that a source has made. -/
structure CallAt (w : World) (c : PCall) : Prop where
  paths : TextsAt w c.pa c.paths
  args : TextsAt w c.ra c.args
  pn : c.paths.length ≤ 2
  an : c.args.length ≤ 4
  pcap : c.paths.length ≤ c.pc ∧ (c.pa = none → c.pc = 0)
  acap : c.args.length ≤ c.rc ∧ (c.ra = none → c.rc = 0)
  ptxt : ∀ s ∈ c.paths, TextOk 60 s
  atxt : ∀ s ∈ c.args, TextOk 10 s
theorem CallAt.keep {w w' : World} {c : PCall} (h : CallAt w c) (hk : Keeps tString w w') : CallAt w' c := ⟨h.paths.keep hk, h.args.keep hk, h.pn, h.an, h.pcap, h.acap, h.ptxt, h.atxt⟩
theorem CSt.at_ {W V : World} {p lc n k m b j1 j2 : Nat} {la : Option Addr} {xs : List Int} {c : PCall} (h : CSt W p la xs lc n k V m b c j1 j2) (h1 : j1 ≤ 2) (h2 : j2 ≤ 4) : CallAt V c := by
  obtain ⟨a, q, e, hn, hr⟩ := h.prow.shape (fun _ => rfl)
  cases e
  obtain ⟨a2, q2, e2, hn2, hr2⟩ := h.arow.shape (fun _ => rfl)
  cases e2
  exact ⟨hr, hr2, by have := h.plen; omega, by have := h.alen; omega, ⟨h.prow.cap_le, hn⟩, ⟨h.arow.cap_le, hn2⟩, h.ptxt, h.atxt⟩
theorem one_str (s : ByteArray) : ∀ u ∈ strCells s, u.oneCell' = true := by intro u hu; simp [strCells] at hu; subst hu; rfl
theorem CSt.box5 {W V U : World} {p lc n k m b j1 j2 : Nat} {la : Option Addr} {xs : List Int} {c : PCall} {o : Obj} (h : CSt W p la xs lc n k V m b c j1 j2) (hg : (V.alloc o).grownBy U (Value.slice c.pa c.paths.length c.pc).ownBlock) :
    U.cell? ⟨b, 5, none⟩ = some (.slice c.pa c.paths.length c.pc) ∧ U.frozen? ⟨b, 5, none⟩ = false := by
  have hst := (h.st.alloc o).grown (World.ownsRow.alloc h.prow o) hg (boxes_ne b c W)
  exact ⟨cell_of_block hst.box 5, frozen_of_block hst.box 5⟩
theorem CSt.box6 {W V U : World} {p lc n k m b j1 j2 : Nat} {la : Option Addr} {xs : List Int} {c : PCall} {o : Obj} (h : CSt W p la xs lc n k V m b c j1 j2) (hg : (V.alloc o).grownBy U (Value.slice c.ra c.args.length c.rc).ownBlock) :
    U.cell? ⟨b, 6, none⟩ = some (.slice c.ra c.args.length c.rc) ∧ U.frozen? ⟨b, 6, none⟩ = false := by
  have hst := (h.st.alloc o).grown (World.ownsRow.alloc h.arow o) hg (boxes_ne b c W)
  exact ⟨cell_of_block hst.box 6, frozen_of_block hst.box 6⟩
def CallPost (W : World) (p : Nat) (la : Option Addr) (xs : List Int) (lc n k : Nat) (e : Ending) (W' : World) : Prop :=
  ∃ (c : PCall) (n' : Nat), e = .returned (.agg c.vs) ∧ CallAt W' c ∧ Mill W p la xs lc n k W' n'
theorem words_args : ∀ y ∈ ([⟨#[97]⟩, ⟨#[47, 97]⟩, ⟨#[98, 47, 99]⟩, ⟨#[104, 111, 115, 116]⟩, ⟨#[]⟩, ⟨#[46, 46, 47, 98]⟩, ⟨#[47]⟩, ⟨#[120, 32, 121]⟩] : List ByteArray), TextOk 10 y := by unfold TextOk Ascii; decide +kernel
set_option maxRecDepth 100000 in
set_option maxHeartbeats 4000000 in
theorem c_call (p : Nat) (la : Option Addr) (xs : List Int) (lc n : Nat) (W : World) (hS : Src W p la xs lc n) (hn : n ≤ 999997000) :
    Calls Tryz.prog 30 #[.pointer (some ⟨p, 0, none⟩)] W (CallPost W p la xs lc n 60) := by
  have HS := Lib.hid ((St.start hS).new (callBox zeroC))
  clear hS
  obtain ⟨i0, hi, hz0, hz1, hz2⟩ := info_parts info_str
  have HI := Lib.hid hi
  clear hi
  go_enter Tryz.func30, Tryz.ntmps30
  go_upto_region 1 with fail
  obtain ⟨W1, hW1⟩ : ∃ W1, W1 = W.alloc (callBox zeroC) := ⟨_, rfl⟩
  change Code.wp _ _ _ _ (W.alloc (callBox zeroC))
  rw [← hW1] at HS ⊢
  clear hW1
  have hle := HS.out.mill.le
  go_cut [3] (fun s3 wc => ∃ (b : Nat), s3 = .pointer (some ⟨b, 0, none⟩) ∧ ∃ (c : PCall) (m : Nat), Aside (CSt W p la xs lc n 1 wc m b c 0 0))
  case first =>
    go_wp2_with (first
      | (go_at_call 31; refine (c_pickA p la xs lc _ _ _ _ HS.out.mill.src (by omega) (by kernel_rfl) (by kernel_rfl) (by decide) (by decide)).mono ?_; rintro e w1 ⟨x, n1, rfl, _, hS', hn', hm'⟩; have HS1 := Lib.hid (HS.out.step 1 hS' hn' hm'); clear HS; have HS := HS1; clear HS1 hS' hn' hm')
      | (refine wpList_store_row (by rfl) tCall _ _ (by rfl) _ #[_, _, _, _, _, _, _] (by rfl) (by rfl) tCall _ (heap_new _ _) (by kernel_rfl) (by rfl) (by kernel_rfl) ?_; rw [setRow_new]))
    go_meet
    exact ⟨_, rfl, ⟨_, _, _, _, _, none, 0, [], none, 0, []⟩, _, ⟨HS.out.new _, Nat.ne_of_gt (lt_of_some HS.out.box), World.ownsRow_nil _ _ _ _, World.ownsRow_nil _ _ _ _, (fun g hg => by cases hg), rfl, rfl, (fun s hs => absurd hs List.not_mem_nil), (fun s hs => absurd hs List.not_mem_nil)⟩⟩
  case rest =>
    obtain ⟨b, rfl, hcut⟩ := hcut
    clear hle
    obtain ⟨c, m, HS2⟩ := hcut
    (try clear HS k0 k1 k2 k3 k4 k5 k6 g0 g1 g2 g3 g4 g5 g6)
    have HS : Hid (CSt W p la xs lc n 1 wc m b c 0 0) := HS2
    have hle := HS.out.st.mill.le
    clear HS2
    obtain ⟨k0, k1, k2, k3, k4, k5, k6, g0, g1, g2, g3, g4, g5, g6⟩ := HS.out.cells
    go_upto_region 3 with (first | (go_at_call 56; refine (c_shape _ _).mono ?_; rintro e w1 ⟨ca, cb, cc, cd, rfl, ⟨hca1, hca2, hcb1, hcb2, hcc, hcd1, hcd2⟩, hb1⟩; have HS1 := Lib.hid (HS.out.step 0 (HS.out.st.mill.src.below hb1 (Nat.le_refl _)) (Nat.le_refl _) (Moved.of_below hb1 (Nat.le_refl _))); clear HS k0 k1 k2 k3 k4 k5 k6 g0 g1 g2 g3 g4 g5 g6 hb1; have HS := HS1; clear HS1; obtain ⟨k0, k1, k2, k3, k4, k5, k6, g0, g1, g2, g3, g4, g5, g6⟩ := HS.out.cells))
    go_upto_block 0 with fail
    go_cut [8] (fun s8 wc => ∃ (c : PCall) (m : Nat), Aside (CSt W p la xs lc n 3 wc m b c 0 0))
    case first =>
      go_wp2_with fail
      go_loopg [8] 2 (fun gg s8 wr => ∃ (j : Nat) (c : PCall) (m : Nat), j + gg = 2 ∧ (j : Int) ≤ ca ∧ s8 = .int .i64 j ∧ Aside (CSt W p la xs lc n (1 + j) wr m b c 0 0))
      case atStart => exact ⟨0, c, m, rfl, by omega, rfl, HS.out.up 1 (by omega)⟩
      case round =>
        clear k0 k1 k2 k3 k4 k5 k6 g0 g1 g2 g3 g4 g5 g6 hle
        obtain ⟨j, c, m, hg, hja, rfl, HS2⟩ := hrel
        clear HS
        have HS : Hid (CSt W p la xs lc n (1 + j) wr m b c 0 0) := HS2
        clear HS2
        have hle := HS.out.st.mill.le
        obtain ⟨k0, k1, k2, k3, k4, k5, k6, g0, g1, g2, g3, g4, g5, g6⟩ := HS.out.cells
        by_cases hlt : (j : Int) < ca
        · have hj2 : j = 0 ∨ j = 1 := by omega
          rcases hj2 with rfl | rfl
          · go_wp2_with (go_at_call 31; refine (c_pickA p la xs lc _ _ _ _ HS.out.st.mill.src (by omega) (by kernel_rfl) (by kernel_rfl) (by decide) (by decide)).mono ?_; rintro e w1 ⟨x, n1, rfl, _, hS', hn', hm'⟩; have HS1 := Lib.hid (HS.out.step 1 hS' hn' hm'); (try clear k0 k1 k2 k3 k4 k5 k6 g0 g1 g2 g3 g4 g5 g6); have hle := HS1.out.st.mill.le; clear HS; have HS := HS1; clear HS1 hS' hn' hm'; (try obtain ⟨k0, k1, k2, k3, k4, k5, k6, g0, g1, g2, g3, g4, g5, g6⟩ := HS.out.cells))
            go_roundg (gk - 1)
            case measure => omega
            case rel => exact ⟨1, _, _, by omega, by omega, rfl, (HS.out.set 1 (.int .i64 x) { c with a0 := x } rfl ⟨rfl, rfl, rfl, rfl, rfl, rfl⟩)⟩
          · go_wp2_with (go_at_call 31; refine (c_pickA p la xs lc _ _ _ _ HS.out.st.mill.src (by omega) (by kernel_rfl) (by kernel_rfl) (by decide) (by decide)).mono ?_; rintro e w1 ⟨x, n1, rfl, _, hS', hn', hm'⟩; have HS1 := Lib.hid (HS.out.step 1 hS' hn' hm'); (try clear k0 k1 k2 k3 k4 k5 k6 g0 g1 g2 g3 g4 g5 g6); have hle := HS1.out.st.mill.le; clear HS; have HS := HS1; clear HS1 hS' hn' hm'; (try obtain ⟨k0, k1, k2, k3, k4, k5, k6, g0, g1, g2, g3, g4, g5, g6⟩ := HS.out.cells))
            go_roundg (gk - 1)
            case measure => omega
            case rel => exact ⟨2, _, _, by omega, by omega, rfl, (HS.out.set 2 (.int .i64 x) { c with a1 := x } rfl ⟨rfl, rfl, rfl, rfl, rfl, rfl⟩)⟩
        · go_wp2
          go_meet
          exact ⟨c, _, HS.out.up 3 (by omega)⟩
    case rest =>
      obtain ⟨c, m, HS2⟩ := hcut
      (try clear HS k0 k1 k2 k3 k4 k5 k6 g0 g1 g2 g3 g4 g5 g6)
      have HS : Hid (CSt W p la xs lc n 3 wc m b c 0 0) := HS2
      have hle := HS.out.st.mill.le
      clear HS2
      obtain ⟨k0, k1, k2, k3, k4, k5, k6, g0, g1, g2, g3, g4, g5, g6⟩ := HS.out.cells
      go_upto_block 2 with fail
      go_cut [] (fun wc => ∃ (c : PCall) (m : Nat), Aside (CSt W p la xs lc n 5 wc m b c 0 0))
      case first =>
        go_wp2_with (first
      | (go_at_call 31; refine (c_pickA p la xs lc _ _ _ _ HS.out.st.mill.src (by omega) (by kernel_rfl) (by kernel_rfl) (by decide) (by decide)).mono ?_; rintro e w1 ⟨x, n1, rfl, _, hS', hn', hm'⟩; have HS1 := Lib.hid (HS.out.step 1 hS' hn' hm'); (try clear k0 k1 k2 k3 k4 k5 k6 g0 g1 g2 g3 g4 g5 g6); have hle := HS1.out.st.mill.le; clear HS; have HS := HS1; clear HS1 hS' hn' hm'; (try obtain ⟨k0, k1, k2, k3, k4, k5, k6, g0, g1, g2, g3, g4, g5, g6⟩ := HS.out.cells))
      | (go_at_call 11; refine (c_n p la xs lc _ _ _ HS.out.st.mill.src (by omega) (by decide) (by decide)).mono ?_; rintro e w1 ⟨x, n1, rfl, _, hS', hn', hm'⟩; have HS1 := Lib.hid (HS.out.step 1 hS' hn' hm'); (try clear k0 k1 k2 k3 k4 k5 k6 g0 g1 g2 g3 g4 g5 g6); have hle := HS1.out.st.mill.le; clear HS; have HS := HS1; clear HS1 hS' hn' hm'; (try obtain ⟨k0, k1, k2, k3, k4, k5, k6, g0, g1, g2, g3, g4, g5, g6⟩ := HS.out.cells))
      | (go_at_call 28; refine (c_range p la xs lc _ _ _ _ HS.out.st.mill.src (by omega) (by omega) (by omega) (by omega)).mono ?_; rintro e w1 ⟨x, n1, rfl, hx, hS', hn', hm'⟩; obtain ⟨hxl, hxh⟩ := hx; have HS1 := Lib.hid (HS.out.step 1 hS' hn' hm'); (try clear k0 k1 k2 k3 k4 k5 k6 g0 g1 g2 g3 g4 g5 g6); have hle := HS1.out.st.mill.le; clear HS; have HS := HS1; clear HS1 hS' hn' hm'; (try obtain ⟨k0, k1, k2, k3, k4, k5, k6, g0, g1, g2, g3, g4, g5, g6⟩ := HS.out.cells)))
        all_goals go_meet
        all_goals (first
          | exact ⟨c, _, HS.out.up 5 (by omega)⟩
          | exact ⟨{ c with a0 := x }, _, (HS.out.set 1 (.int .i64 x) { c with a0 := x } rfl ⟨rfl, rfl, rfl, rfl, rfl, rfl⟩).up 5 (by omega)⟩
          | exact ⟨{ c with a0 := _, a1 := _, a2 := _, a3 := _ }, _, (HS.out.setA _ _ _ _).up 5 (by omega)⟩)
      case rest =>
        obtain ⟨c, m, HS2⟩ := hcut
        (try clear HS k0 k1 k2 k3 k4 k5 k6 g0 g1 g2 g3 g4 g5 g6)
        have HS : Hid (CSt W p la xs lc n 5 wc m b c 0 0) := HS2
        have hle := HS.out.st.mill.le
        clear HS2
        obtain ⟨k0, k1, k2, k3, k4, k5, k6, g0, g1, g2, g3, g4, g5, g6⟩ := HS.out.cells
        go_upto_block 3 with fail
        go_cut [9] (fun s9 wc => ∃ (c : PCall) (m j : Nat), j ≤ 2 ∧ Aside (CSt W p la xs lc n 45 wc m b c j 0))
        case first =>
          go_wp2_with fail
          go_loopg [9] 2 (fun gg s9 wr => ∃ (j : Nat) (c : PCall) (m : Nat), j + gg = 2 ∧ (j : Int) ≤ cb ∧ s9 = .int .i64 j ∧ Aside (CSt W p la xs lc n (5 + 20 * j) wr m b c j 0))
          case atStart => exact ⟨0, c, m, rfl, by omega, rfl, HS.out⟩
          case round =>
            clear k0 k1 k2 k3 k4 k5 k6 g0 g1 g2 g3 g4 g5 g6 hle
            obtain ⟨j, c, m, hg, hja, rfl, HS2⟩ := hrel
            clear HS
            have HS : Hid (CSt W p la xs lc n (5 + 20 * j) wr m b c j 0) := HS2
            clear HS2
            have hle := HS.out.st.mill.le
            obtain ⟨k0, k1, k2, k3, k4, k5, k6, g0, g1, g2, g3, g4, g5, g6⟩ := HS.out.cells
            by_cases hlt : (j : Int) < cb
            · go_upto_region 20 with fail
              have HD := Lib.hid HS.out.drew
              have hl := HS.out.plen
              subst hl
              go_region_law (first
                | (go_simp; go_at_call 57; refine (c_path p la xs lc m _ HD.out.st.mill.src (by omega)).mono ?_; rintro e w1 ⟨t, n1, rfl, ht1, ht2, ⟨hS', hn', hm'⟩⟩; have HT := Lib.hid (And.intro ht1 ht2 : TextOk 60 t); have HS1 := Lib.hid (HD.out.step 20 hS' hn' hm'); obtain ⟨q0, q1, q2, q3, q4, q5, q6, r0, r1, r2, r3, r4, r5, r6⟩ := HS1.out.cells; clear hS' hn' hm' ht1 ht2 q0 q1 q2 q3 q4 q6 r0 r1 r2 r3 r4 r6; have hbw : b < w1.heap.size := lt_of_some HS1.out.st.box; have qa : ∀ o : Obj, (w1.alloc o).cell? ⟨b, 5, none⟩ = some (Value.slice c.pa c.paths.length c.pc) := fun o => (cell_of_block (HS1.out.st.alloc o).box 5))
                | (refine step_append_lies _ (by rfl) _ _ 33 (by rfl) W.heap.size tString i0 _ 1 16 Tryz.underlying33 HI.out hz0 hz1 hz2 rfl (by decide) (.slice c.pa c.paths.length c.pc) c.paths.length (c.paths.flatMap strCells) (by rfl) (World.ownsRow.alloc HS1.out.prow _) ⟨w1.heap.size, 0, none⟩ 1 1 (strCells t) (by rfl) rfl (news_new _ _ _) (one_str t) (by decide) (by unfold maxLen; omega) (by omega) (by rw [World.size_alloc]; exact Nat.le_succ_of_le HS1.out.st.mill.moved.size) _ rfl ?_; intro g cap w4 hown4 hg4 hgb hlt4; obtain ⟨qc, qf⟩ := HS1.out.box5 hg4; have HG := Lib.hid (HS1.out.growP HT.out hown4 hg4 hgb)))
              all_goals
                have HF := Lib.hid (HG.out.up (5 + 20 * (c.paths.length + 1)) (by omega))
                go_wp2
                go_roundg (gk - 1)
                case measure => omega
                case rel => exact ⟨c.paths.length + 1, _, _, by omega, by omega, by go_num, HF.out⟩
            · go_wp2
              go_meet
              exact ⟨c, m, j, by omega, HS.out.up 45 (by omega)⟩
        case rest =>
          obtain ⟨c, m, jp, hjp, hcut⟩ := hcut
          have hcut : ∃ (c : PCall) (m : Nat), Aside (CSt W p la xs lc n 45 wc m b c jp 0) := ⟨c, m, hcut⟩
          obtain ⟨c, m, HS2⟩ := hcut
          (try clear HS k0 k1 k2 k3 k4 k5 k6 g0 g1 g2 g3 g4 g5 g6)
          have HS : Hid (CSt W p la xs lc n 45 wc m b c jp 0) := HS2
          have hle := HS.out.st.mill.le
          clear HS2
          obtain ⟨k0, k1, k2, k3, k4, k5, k6, g0, g1, g2, g3, g4, g5, g6⟩ := HS.out.cells
          go_upto_block 5 with (go_at_call 28; refine (c_range p la xs lc _ _ _ _ HS.out.st.mill.src (by omega) (by omega) (by omega) (by omega)).mono ?_; rintro e w1 ⟨ra, n1, rfl, hx, hS', hn', hm'⟩; obtain ⟨hxl, hxh⟩ := hx; have HS1 := Lib.hid (HS.out.step 1 hS' hn' hm'); (try clear k0 k1 k2 k3 k4 k5 k6 g0 g1 g2 g3 g4 g5 g6); have hle := HS1.out.st.mill.le; clear HS; have HS := HS1; clear HS1 hS' hn' hm'; (try obtain ⟨k0, k1, k2, k3, k4, k5, k6, g0, g1, g2, g3, g4, g5, g6⟩ := HS.out.cells))
          go_cut [10] (fun s10 wc => ∃ (c : PCall) (m j : Nat), j ≤ 4 ∧ Aside (CSt W p la xs lc n 50 wc m b c jp j))
          case first =>
            go_wp2_with fail
            go_loopg [10] 4 (fun gg s10 wr => ∃ (j : Nat) (c : PCall) (m : Nat), j + gg = 4 ∧ (j : Int) ≤ ra ∧ s10 = .int .i64 (ra - j) ∧ Aside (CSt W p la xs lc n (46 + j) wr m b c jp j))
            case atStart => exact ⟨0, c, _, rfl, by omega, by go_num, HS.out⟩
            case round =>
              clear k0 k1 k2 k3 k4 k5 k6 g0 g1 g2 g3 g4 g5 g6 hle
              obtain ⟨j, c, m, hg, hja, rfl, HS2⟩ := hrel
              clear HS
              have HS : Hid (CSt W p la xs lc n (46 + j) wr m b c jp j) := HS2
              clear HS2
              have hle := HS.out.st.mill.le
              obtain ⟨k0, k1, k2, k3, k4, k5, k6, g0, g1, g2, g3, g4, g5, g6⟩ := HS.out.cells
              by_cases hlt : (0 : Int) < ra - j
              · go_upto_region 24 with fail
                have HD := Lib.hid HS.out.drew
                have hl := HS.out.alen
                subst hl
                have hbw0 : b < wr.heap.size := lt_of_some HS.out.st.box
                have qb : ∀ o : Obj, (wr.alloc o).cell? ⟨b, 6, none⟩ = some (Value.slice c.ra c.args.length c.rc) := fun o => (cell_of_block (HS.out.st.alloc o).box 6)
                go_region_law (first
                  | (go_simp; go_at_call 41; refine (c_wordA p la xs lc m _ _ wr.drew HD.out.st.mill.src (by omega) (by kernel_rfl) (by kernel_rfl) (by decide) (by decide)).mono ?_; rintro e w1 ⟨t, n1, rfl, ht1, hS', hn', hm'⟩; have HT := Lib.hid (words_args t ht1); have HS1 := Lib.hid (HD.out.step 1 hS' hn' hm'); obtain ⟨q0, q1, q2, q3, q4, q5, q6, r0, r1, r2, r3, r4, r5, r6⟩ := HS1.out.cells; clear hS' hn' hm' ht1 q0 q1 q2 q3 q4 q5 r0 r1 r2 r3 r4 r5; have hbw : b < w1.heap.size := lt_of_some HS1.out.st.box; have qa : ∀ o : Obj, (w1.alloc o).cell? ⟨b, 6, none⟩ = some (Value.slice c.ra c.args.length c.rc) := fun o => (cell_of_block (HS1.out.st.alloc o).box 6))
                  | (refine step_append_lies _ (by rfl) _ _ 33 (by rfl) W.heap.size tString i0 _ 1 16 Tryz.underlying33 HI.out hz0 hz1 hz2 rfl (by decide) (.slice c.ra c.args.length c.rc) c.args.length (c.args.flatMap strCells) (by rfl) (World.ownsRow.alloc HS1.out.arow _) ⟨w1.heap.size, 0, none⟩ 1 1 (strCells t) (by rfl) rfl (news_new _ _ _) (one_str t) (by decide) (by unfold maxLen; omega) (by omega) (by rw [World.size_alloc]; exact Nat.le_succ_of_le HS1.out.st.mill.moved.size) _ rfl ?_; intro g cap w4 hown4 hg4 hgb hlt4; obtain ⟨qc, qf⟩ := HS1.out.box6 hg4; have HG := Lib.hid (HS1.out.growA HT.out hown4 hg4 hgb)))
                all_goals
                  have HF := Lib.hid (HG.out.up (46 + (c.args.length + 1)) (by omega))
                  go_wp2
                  go_roundg (gk - 1)
                  case measure => omega
                  case rel => exact ⟨c.args.length + 1, _, _, by omega, by omega, by go_num, HF.out⟩
              · go_wp2
                go_meet
                exact ⟨c, m, j, by omega, HS.out.up 50 (by omega)⟩
          case rest =>
            obtain ⟨c, m, ja, hja, hcut⟩ := hcut
            have hcut : ∃ (c : PCall) (m : Nat), Aside (CSt W p la xs lc n 50 wc m b c jp ja) := ⟨c, m, hcut⟩
            obtain ⟨c, m, HS2⟩ := hcut
            (try clear HS k0 k1 k2 k3 k4 k5 k6 g0 g1 g2 g3 g4 g5 g6)
            have HS : Hid (CSt W p la xs lc n 50 wc m b c jp ja) := HS2
            have hle := HS.out.st.mill.le
            clear HS2
            obtain ⟨k0, k1, k2, k3, k4, k5, k6, g0, g1, g2, g3, g4, g5, g6⟩ := HS.out.cells
            go_upto_if 99 with (go_at_call 11; refine (c_n p la xs lc _ _ _ HS.out.st.mill.src (by omega) (by decide) (by decide)).mono ?_; rintro e w1 ⟨x, n1, rfl, _, hS', hn', hm'⟩; have HS1 := Lib.hid (HS.out.step 1 hS' hn' hm'); (try clear k0 k1 k2 k3 k4 k5 k6 g0 g1 g2 g3 g4 g5 g6); have hle := HS1.out.st.mill.le; clear HS; have HS := HS1; clear HS1 hS' hn' hm'; (try obtain ⟨k0, k1, k2, k3, k4, k5, k6, g0, g1, g2, g3, g4, g5, g6⟩ := HS.out.cells))
            go_cut [] (fun wc => ∃ (c : PCall) (m : Nat), Aside (CSt W p la xs lc n 55 wc m b c jp ja))
            case first =>
              go_wp2_with (first
      | (go_at_call 11; refine (c_n p la xs lc _ _ _ HS.out.st.mill.src (by omega) (by decide) (by decide)).mono ?_; rintro e w1 ⟨xa, n1, rfl, _, hS', hn', hm'⟩; have HS1 := Lib.hid (HS.out.step 1 hS' hn' hm'); (try clear k0 k1 k2 k3 k4 k5 k6 g0 g1 g2 g3 g4 g5 g6); have hle := HS1.out.st.mill.le; clear HS; have HS := HS1; clear HS1 hS' hn' hm'; (try obtain ⟨k0, k1, k2, k3, k4, k5, k6, g0, g1, g2, g3, g4, g5, g6⟩ := HS.out.cells))
      | (go_at_call 28; refine (c_range p la xs lc _ _ _ _ HS.out.st.mill.src (by omega) (by omega) (by omega) (by omega)).mono ?_; rintro e w1 ⟨xb, n1, rfl, hx, hS', hn', hm'⟩; obtain ⟨hxl, hxh⟩ := hx; have HS1 := Lib.hid (HS.out.step 1 hS' hn' hm'); (try clear k0 k1 k2 k3 k4 k5 k6 g0 g1 g2 g3 g4 g5 g6); have hle := HS1.out.st.mill.le; clear HS; have HS := HS1; clear HS1 hS' hn' hm'; (try obtain ⟨k0, k1, k2, k3, k4, k5, k6, g0, g1, g2, g3, g4, g5, g6⟩ := HS.out.cells)))
              · go_meet
                exact ⟨{ c with a3 := _, number := _ }, _, ((HS.out.set 4 (.int .i64 xa) { c with a3 := xa } rfl ⟨rfl, rfl, rfl, rfl, rfl, rfl⟩).set 0 (.int .i64 xb) { c with a3 := xa, number := xb } rfl ⟨rfl, rfl, rfl, rfl, rfl, rfl⟩).up 55 (by omega)⟩
              · go_meet
                exact ⟨c, _, HS.out.up 55 (by omega)⟩
            case rest =>
              obtain ⟨c, m, HS2⟩ := hcut
              (try clear HS k0 k1 k2 k3 k4 k5 k6 g0 g1 g2 g3 g4 g5 g6)
              have HS : Hid (CSt W p la xs lc n 55 wc m b c jp ja) := HS2
              have hle := HS.out.st.mill.le
              clear HS2
              obtain ⟨k0, k1, k2, k3, k4, k5, k6, g0, g1, g2, g3, g4, g5, g6⟩ := HS.out.cells
              have HF := Lib.hid ((HS.out.at_ hjp hja).keep (Keeps.grown (grown_setRow wc W.heap.size #[.int .i64 c.number, .int .i64 c.a0, .int .i64 c.a1, .int .i64 c.a2, .int .i64 c.a3, .slice c.pa c.paths.length c.pc, .slice c.ra c.args.length c.rc]) HS.out.st.box2 (by decide)))
              go_wp2_with (refine wpList_store_row (by rfl) tCall _ _ (by rfl) W.heap.size #[_, _, _, _, _, _, _] (by rfl) (by rfl) tCall _ HS.out.st.box2 (by kernel_rfl) (by rfl) (by kernel_rfl) ?_)
              refine bodyPost_ret (v := .agg _) (results_cell_row (p := 2) (ty := tCall) (by kernel_rfl) _ _ W.heap.size _ _ _ _ (by rfl) (setRow_heap _ W.heap.size _ _ tCall (0, 0) HS.out.st.box2) Tryz.underlying35 rfl (by kernel_rfl)) rfl ?_
              exact ⟨c, _, rfl, HF.out, (HS.out.st.swap.row (by decide) (fun x hx => by rw [List.mem_singleton.1 hx]; exact HS.out.ne)).mill.up (by omega)⟩
end Go.Proofs.YtnbfenapnfbmeaaGreat
