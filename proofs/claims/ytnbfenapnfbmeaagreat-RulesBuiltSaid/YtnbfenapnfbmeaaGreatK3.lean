/- Contracts: the source of tests (kauditmake). Printed by genK3.py. -/
import Derived.Test.YtnbfenapnfbmeaaGreatK1
import Derived.Test.YtnbfenapnfbmeaaGreatC8
set_option linter.unusedSimpArgs false
set_option linter.unusedVariables false
namespace Go.Proofs.YtnbfenapnfbmeaaGreat
open Go.RowKit
/-- A source in a later world, and blocks of the call's own with what they hold. -/
structure St (W : World) (p : Nat) (la : Option Addr) (xs : List Int) (lc n k : Nat) (V : World) (m : Nat) (bs : List (Nat × Obj)) : Prop where
  mill : Mill W p la xs lc n k V m
  hp : p < W.heap.size
  at' : ∀ x ∈ bs, W.heap.size ≤ x.1 ∧ V.heap[x.1]? = some x.2
theorem St.start {W : World} {p : Nat} {la : Option Addr} {xs : List Int} {lc n : Nat} (h : Src W p la xs lc n) : St W p la xs lc n 0 W n [] := ⟨Mill.start h, lt_of_some h.blk, fun x hx => absurd hx (List.not_mem_nil)⟩
theorem St.step {W V U : World} {p : Nat} {la : Option Addr} {xs : List Int} {lc n k m m' : Nat} {bs : List (Nat × Obj)} (h : St W p la xs lc n k V m bs) (j : Nat) (hs : Src U p la xs lc m') (hm : m' ≤ m + j) (hv : Moved p V U) : St W p la xs lc n (k + j) U m' bs :=
  ⟨h.mill.step hs hm hv, h.hp, fun x hx => ⟨(h.at' x hx).1, hv.box (h.at' x hx).2 (by have := (h.at' x hx).1; have := h.hp; omega)⟩⟩
theorem St.alloc {W V : World} {p : Nat} {la : Option Addr} {xs : List Int} {lc n k m : Nat} {bs : List (Nat × Obj)} (h : St W p la xs lc n k V m bs) (o : Obj) : St W p la xs lc n k (V.alloc o) m bs :=
  ⟨h.mill.alloc o, h.hp, fun x hx => ⟨(h.at' x hx).1, (Below.heap_alloc _ _ _ (lt_of_some (h.at' x hx).2)).trans (h.at' x hx).2⟩⟩
theorem St.new {W V : World} {p : Nat} {la : Option Addr} {xs : List Int} {lc n k m : Nat} {bs : List (Nat × Obj)} (h : St W p la xs lc n k V m bs) (o : Obj) : St W p la xs lc n k (V.alloc o) m ((V.heap.size, o) :: bs) :=
  ⟨h.mill.alloc o, h.hp, fun x hx => by
    rcases List.mem_cons.1 hx with rfl | hx
    · exact ⟨h.mill.moved.size, heap_new _ _⟩
    · exact (h.alloc o).at' x hx⟩
theorem St.up {W V : World} {p : Nat} {la : Option Addr} {xs : List Int} {lc n k m : Nat} {bs : List (Nat × Obj)} (h : St W p la xs lc n k V m bs) (j : Nat) (hj : k ≤ j) : St W p la xs lc n j V m bs := ⟨h.mill.up hj, h.hp, h.at'⟩
theorem St.drewN {W V : World} {p : Nat} {la : Option Addr} {xs : List Int} {lc n k m : Nat} {bs : List (Nat × Obj)} (h : St W p la xs lc n k V m bs) (j : Nat) : St W p la xs lc n k (V.drewN j) m bs := ⟨⟨h.mill.src.mk' rfl, h.mill.le, h.mill.moved.drewN j⟩, h.hp, h.at'⟩
/-- A block of the call's own is written over. -/
theorem St.put {W V U : World} {p : Nat} {la : Option Addr} {xs : List Int} {lc n k m : Nat} {b : Nat} {o o' : Obj} {bs : List (Nat × Obj)} (h : St W p la xs lc n k V m ((b, o) :: bs)) (cs : Array Value) (E : TypeId) (fz : Nat × Nat) (ho : o = .cells cs E fz) (hE : tInt ≠ E)
    (hg : V.grownBy U (some b)) (hb : U.heap[b]? = some o') (hd : ∀ x ∈ bs, x.1 ≠ b) : St W p la xs lc n k U m ((b, o') :: bs) := by
  have hhp := h.hp
  have hbp : W.heap.size ≤ b := (h.at' _ (List.mem_cons_self ..)).1
  have hvb := (h.at' _ (List.mem_cons_self ..)).2
  refine ⟨⟨⟨?_, h.mill.src.row.keep ?_, h.mill.src.le⟩, h.mill.le, ?_⟩, h.hp, fun x hx => ?_⟩
  · exact (hg.block p (lt_of_some h.mill.src.blk) (fun e => by cases e; omega)).trans h.mill.src.blk
  · exact fun b' hb' => hg.block b' (Nat.lt_trans hb' (lt_of_some h.mill.src.blk)) (fun e => by cases e; omega)
  · refine ⟨hg.os.trans h.mill.moved.os, hg.tape.trans h.mill.moved.tape, hg.output.trans h.mill.moved.output, Nat.le_trans h.mill.moved.size hg.size, fun i hi hne => ?_⟩
    exact (hg.block i (Nat.lt_of_lt_of_le hi h.mill.moved.size) (fun e => by cases e; omega)).trans (h.mill.moved.block i hi hne)
  · rcases List.mem_cons.1 hx with rfl | hx
    · exact ⟨hbp, hb⟩
    · exact ⟨(h.at' x (List.mem_cons_of_mem _ hx)).1, (hg.block _ (lt_of_some (h.at' x (List.mem_cons_of_mem _ hx)).2) (fun e => hd x hx (by cases e; rfl))).trans (h.at' x (List.mem_cons_of_mem _ hx)).2⟩
theorem grown_setCell (W : World) (b i : Nat) (v : Value) : W.grownBy (W.setCell ⟨b, i, none⟩ v) (some b) :=
  ⟨rfl, rfl, rfl, by simp [World.setCell], fun k _ hne => heap_setCell_other W _ k v (fun e => hne (by rw [e]))⟩
theorem St.cell {W V : World} {p : Nat} {la : Option Addr} {xs : List Int} {lc n k m : Nat} {b : Nat} {cs : Array Value} {E : TypeId} {bs : List (Nat × Obj)} (h : St W p la xs lc n k V m ((b, .cells cs E) :: bs)) (i : Nat) (v : Value) (cs' : Array Value) (hc : cs.setIfInBounds i v = cs') (hE : tInt ≠ E) (hd : ∀ x ∈ bs, x.1 ≠ b) : St W p la xs lc n k (V.setCell ⟨b, i, none⟩ v) m ((b, .cells cs' E) :: bs) :=
  h.put cs E (0, 0) rfl hE (grown_setCell V b i v) (by rw [heap_setCell_same V b i cs E v (h.at' _ (List.mem_cons_self ..)).2, hc]) hd
theorem grown_setRow (W : World) (b : Nat) (cs : Array Value) : W.grownBy (W.setRow b cs) (some b) :=
  ⟨rfl, rfl, rfl, by simp, fun k _ hne => by
    simp only [World.setRow, Array.getElem?_modify]
    rw [if_neg (fun e => hne (by rw [e]))]⟩
theorem St.row {W V : World} {p : Nat} {la : Option Addr} {xs : List Int} {lc n k m : Nat} {b : Nat} {cs cs' : Array Value} {E : TypeId} {bs : List (Nat × Obj)} (h : St W p la xs lc n k V m ((b, .cells cs E) :: bs)) (hE : tInt ≠ E) (hd : ∀ x ∈ bs, x.1 ≠ b) : St W p la xs lc n k (V.setRow b cs') m ((b, .cells cs' E) :: bs) :=
  h.put cs E (0, 0) rfl hE (grown_setRow V b cs') (setRow_heap V b cs cs' E (0, 0) (h.at' _ (List.mem_cons_self ..)).2) hd
theorem St.box {W V : World} {p : Nat} {la : Option Addr} {xs : List Int} {lc n k m : Nat} {b : Nat} {o : Obj} {bs : List (Nat × Obj)} (h : St W p la xs lc n k V m ((b, o) :: bs)) : V.heap[b]? = some o := (h.at' _ (List.mem_cons_self ..)).2
theorem St.box2 {W V : World} {p : Nat} {la : Option Addr} {xs : List Int} {lc n k m : Nat} {b b' : Nat} {o o' : Obj} {bs : List (Nat × Obj)} (h : St W p la xs lc n k V m ((b', o') :: (b, o) :: bs)) : V.heap[b]? = some o := (h.at' (b, o) (List.mem_cons_of_mem _ (List.mem_cons_self ..))).2
theorem St.swap {W V : World} {p : Nat} {la : Option Addr} {xs : List Int} {lc n k m : Nat} {x y : Nat × Obj} {bs : List (Nat × Obj)} (h : St W p la xs lc n k V m (x :: y :: bs)) : St W p la xs lc n k V m (y :: x :: bs) :=
  ⟨h.mill, h.hp, fun z hz => h.at' z (by
    rcases List.mem_cons.1 hz with rfl | hz
    · exact List.mem_cons_of_mem _ (List.mem_cons_self ..)
    · rcases List.mem_cons.1 hz with rfl | hz
      · exact List.mem_cons_self ..
      · exact List.mem_cons_of_mem _ (List.mem_cons_of_mem _ hz))⟩
theorem St.ge {W V : World} {p : Nat} {la : Option Addr} {xs : List Int} {lc n k m : Nat} {b : Nat} {o : Obj} {bs : List (Nat × Obj)} (h : St W p la xs lc n k V m ((b, o) :: bs)) : W.heap.size ≤ b := (h.at' _ (List.mem_cons_self ..)).1
def intOf : Value → Int
  | .int _ x => x
  | _ => 0
def strOf : Value → ByteArray
  | .string x => x
  | _ => ⟨#[]⟩
theorem c_pickA (p : Nat) (la : Option Addr) (xs : List Int) (lc n : Nat) (k : Nat) (cells : Array Value) (W : World) (hS : Src W p la xs lc n) (hn : n ≤ 999999999) (hk : cells.size = k) (hc : cells = ((cells.toList.map intOf).map fun x => Value.int .i64 x).toArray) (hl : 0 < k) (hl2 : k ≤ 1000000) :
    Calls Tryz.prog 31 #[.pointer (some ⟨p, 0, none⟩), .slice (some ⟨W.heap.size, 0, none⟩) k k] (W.alloc (.cells cells tInt)) (NPost W p la xs lc n 1 (fun x => x ∈ cells.toList.map intOf)) := by
  have e : (cells.toList.map intOf).length = k := by simp [hk]
  exact c_pick_new p la xs lc n (cells.toList.map intOf) k cells W hS hn e hc (by omega) (by omega)
theorem c_wordA (p : Nat) (la : Option Addr) (xs : List Int) (lc n : Nat) (k : Nat) (cells : Array Value) (W : World) (hS : Src W p la xs lc n) (hn : n ≤ 999999999) (hk : cells.size = k) (hc : cells = ((cells.toList.map strOf).map fun x => Value.string x).toArray) (hl : 0 < k) (hl2 : k ≤ 1000000) :
    Calls Tryz.prog 41 #[.pointer (some ⟨p, 0, none⟩), .slice (some ⟨W.heap.size, 0, none⟩) k k] (W.alloc (.cells cells tString)) (WPost W p la xs lc n 1 (fun x => x ∈ cells.toList.map strOf)) := by
  have e : (cells.toList.map strOf).length = k := by simp [hk]
  exact c_word_new p la xs lc n (cells.toList.map strOf) k cells W hS hn e hc (by omega) (by omega)
def zeroT : Test := ⟨0, 0, 0, ⟨#[]⟩, 0⟩
abbrev tbox (t : Test) : Obj := .cells #[.int .i64 t.field, .int .i64 t.op, .int .i64 t.num, .string t.text, .int .i64 t.other] 75
theorem St.tcells {W V : World} {p : Nat} {la : Option Addr} {xs : List Int} {lc n k m : Nat} {b : Nat} {t : Test} {bs : List (Nat × Obj)} (h : St W p la xs lc n k V m ((b, tbox t) :: bs)) :
    V.cell? ⟨b, 0, none⟩ = some (.int .i64 t.field) ∧ V.cell? ⟨b, 1, none⟩ = some (.int .i64 t.op) ∧ V.cell? ⟨b, 2, none⟩ = some (.int .i64 t.num) ∧ V.cell? ⟨b, 3, none⟩ = some (.string t.text) ∧ V.cell? ⟨b, 4, none⟩ = some (.int .i64 t.other) ∧
    V.frozen? ⟨b, 0, none⟩ = false ∧ V.frozen? ⟨b, 1, none⟩ = false ∧ V.frozen? ⟨b, 2, none⟩ = false := by
  have c := cell_of_block h.box
  have f := frozen_of_block h.box
  exact ⟨c 0, c 1, c 2, c 3, c 4, f 0, f 1, f 2⟩
def TestPost (W : World) (p : Nat) (la : Option Addr) (xs : List Int) (lc n : Nat) (e : Ending) (W' : World) : Prop :=
  ∃ (t : Test) (n' : Nat), e = .returned t.v ∧ Mill W p la xs lc n 10 W' n'
set_option maxRecDepth 100000 in
set_option maxHeartbeats 1000000 in
theorem c_test (p : Nat) (la : Option Addr) (xs : List Int) (lc n : Nat) (l : Int) (W : World) (hS : Src W p la xs lc n) (hn : n ≤ 999999000) :
    Calls Tryz.prog 43 #[.pointer (some ⟨p, 0, none⟩), .int .i64 l] W (TestPost W p la xs lc n) := by
  have HS := Lib.hid ((St.start hS).new (tbox zeroT))
  clear hS
  go_enter Tryz.func43, Tryz.ntmps43
  go_upto_region 1 with fail
  go_cut [5] (fun s5 wc => ∃ (b : Nat) (t : Test) (m : Nat), s5 = .pointer (some ⟨b, 0, none⟩) ∧ Aside (b ≠ W.heap.size) ∧ Aside (St W p la xs lc n 3 wc m [(b, tbox t), (W.heap.size, tbox zeroT)]))
  case first =>
    go_wp2_with (first
    | (go_at_call 28; refine (c_range p la xs lc _ _ _ _ HS.out.mill.src (by omega) (by decide) (by decide) (by decide)).mono ?_; rintro e w1 ⟨x, n1, rfl, _, hS', hn', hm'⟩; (try clear k0 k1 k2 k3 k4 g0 g1 g2); have HS1 := Lib.hid (HS.out.step 1 hS' hn' hm'); have hle := HS1.out.mill.le; clear HS; have HS := HS1; clear HS1 hS' hn' hm'; try obtain ⟨k0, k1, k2, k3, k4, g0, g1, g2⟩ := HS.out.tcells)
    | (go_at_call 31; refine (c_pickA p la xs lc _ _ _ _ HS.out.mill.src (by omega) (by kernel_rfl) (by kernel_rfl) (by decide) (by decide)).mono ?_; rintro e w1 ⟨x, n1, rfl, _, hS', hn', hm'⟩; (try clear k0 k1 k2 k3 k4 g0 g1 g2); have HS1 := Lib.hid (HS.out.step 1 hS' hn' hm'); have hle := HS1.out.mill.le; clear HS; have HS := HS1; clear HS1 hS' hn' hm'; try obtain ⟨k0, k1, k2, k3, k4, g0, g1, g2⟩ := HS.out.tcells))
    go_meet
    exact ⟨_, ⟨_, _, _, _, _⟩, _, rfl, (Nat.ne_of_gt (lt_of_some HS.out.box)), HS.out.new _⟩
  case rest =>
    obtain ⟨b, t, m, rfl, hb, HS2⟩ := hcut
    clear HS
    have HS : Hid (St W p la xs lc n 3 wc m [(b, tbox t), (W.heap.size, tbox zeroT)]) := HS2
    have hle := HS.out.mill.le
    have HD := Lib.hid (show ∀ x ∈ [(W.heap.size, tbox zeroT)], x.1 ≠ b from fun x hx => by rw [List.mem_singleton.1 hx]; exact Ne.symm hb)
    clear HS2 hb
    go_upto_region 2 with fail
    go_cut [6] (fun s6 wc => ∃ (x : Int) (m : Nat), s6 = .int .i64 x ∧ Aside (St W p la xs lc n 4 wc m [(b, tbox t), (W.heap.size, tbox zeroT)]))
    case first =>
      go_wp2_with (first
    | (go_at_call 11; refine (c_n p la xs lc _ _ _ HS.out.mill.src (by omega) (by decide) (by decide)).mono ?_; rintro e w1 ⟨x, n1, rfl, ⟨hx1, hx2⟩, hS', hn', hm'⟩; (try clear k0 k1 k2 k3 k4 g0 g1 g2); have HS1 := Lib.hid (HS.out.step 1 hS' hn' hm'); have hle := HS1.out.mill.le; clear HS; have HS := HS1; clear HS1 hS' hn' hm'; try obtain ⟨k0, k1, k2, k3, k4, g0, g1, g2⟩ := HS.out.tcells))
      go_meet
      exact ⟨_, _, rfl, HS.out⟩
    case rest =>
      obtain ⟨x, m, rfl, HS2⟩ := hcut
      clear HS
      have HS : Hid (St W p la xs lc n 4 wc m [(b, tbox t), (W.heap.size, tbox zeroT)]) := HS2
      have hle := HS.out.mill.le
      clear HS2
      obtain ⟨k0, k1, k2, k3, k4, g0, g1, g2⟩ := HS.out.tcells
      go_upto_block 0 with fail
      go_cut [1, 6] (fun s1 s6 wc => ∃ (t : Test) (m : Nat), Aside (St W p la xs lc n 7 wc m [(b, tbox t), (W.heap.size, tbox zeroT)]))
      case first =>
        go_wp2_with (first
    | (go_at_call 28; refine (c_range p la xs lc _ _ _ _ HS.out.mill.src (by omega) (by decide) (by decide) (by decide)).mono ?_; rintro e w1 ⟨x, n1, rfl, _, hS', hn', hm'⟩; (try clear k0 k1 k2 k3 k4 g0 g1 g2); have HS1 := Lib.hid (HS.out.step 1 hS' hn' hm'); have hle := HS1.out.mill.le; clear HS; have HS := HS1; clear HS1 hS' hn' hm'; try obtain ⟨k0, k1, k2, k3, k4, g0, g1, g2⟩ := HS.out.tcells)
    | (go_at_call 31; refine (c_pickA p la xs lc _ _ _ _ HS.out.mill.src (by omega) (by kernel_rfl) (by kernel_rfl) (by decide) (by decide)).mono ?_; rintro e w1 ⟨x, n1, rfl, _, hS', hn', hm'⟩; (try clear k0 k1 k2 k3 k4 g0 g1 g2); have HS1 := Lib.hid (HS.out.step 1 hS' hn' hm'); have hle := HS1.out.mill.le; clear HS; have HS := HS1; clear HS1 hS' hn' hm'; try obtain ⟨k0, k1, k2, k3, k4, g0, g1, g2⟩ := HS.out.tcells)
    | (go_at_call 41; refine (c_wordA p la xs lc _ _ _ _ HS.out.mill.src (by omega) (by kernel_rfl) (by kernel_rfl) (by decide) (by decide)).mono ?_; rintro e w1 ⟨x, n1, rfl, _, hS', hn', hm'⟩; (try clear k0 k1 k2 k3 k4 g0 g1 g2); have HS1 := Lib.hid (HS.out.step 1 hS' hn' hm'); have hle := HS1.out.mill.le; clear HS; have HS := HS1; clear HS1 hS' hn' hm'; try obtain ⟨k0, k1, k2, k3, k4, g0, g1, g2⟩ := HS.out.tcells)
    | (refine wpList_store_row (by rfl) 75 _ _ (by rfl) b #[_, _, _, _, _] (by rfl) (by rfl) 75 _ HS.out.box (by kernel_rfl) (by rfl) (by kernel_rfl) ?_))
        · go_meet
          exact ⟨⟨_, _, _, _, _⟩, _, (HS.out.row (by decide) HD.out).up 7 (by omega)⟩
        · go_meet
          exact ⟨⟨_, _, _, _, _⟩, _, (HS.out.row (by decide) HD.out).up 7 (by omega)⟩
        · go_meet
          exact ⟨⟨_, _, _, _, _⟩, _, (HS.out.row (by decide) HD.out).up 7 (by omega)⟩
        · go_meet
          exact ⟨⟨_, _, _, _, _⟩, _, (HS.out.cell 0 _ _ rfl (by decide) HD.out).up 7 (by omega)⟩
        · go_meet
          exact ⟨⟨_, _, _, _, _⟩, _, (HS.out.row (by decide) HD.out).up 7 (by omega)⟩
        · go_meet
          exact ⟨t, _, HS.out.up 7 (by omega)⟩
        · go_meet
          exact ⟨⟨_, _, _, _, _⟩, _, ((HS.out.cell 0 _ _ rfl (by decide) HD.out).cell 2 _ _ rfl (by decide) HD.out).up 7 (by omega)⟩
        · go_meet
          exact ⟨⟨_, _, _, _, _⟩, _, (HS.out.cell 0 _ _ rfl (by decide) HD.out).up 7 (by omega)⟩
        · go_meet
          exact ⟨⟨_, _, _, _, _⟩, _, (HS.out.row (by decide) HD.out).up 7 (by omega)⟩
        · go_meet
          exact ⟨t, _, HS.out.up 7 (by omega)⟩
        · go_meet
          exact ⟨⟨_, _, _, _, _⟩, _, (HS.out.row (by decide) HD.out).up 7 (by omega)⟩
        · go_meet
          exact ⟨t, _, HS.out.up 7 (by omega)⟩
        · go_meet
          exact ⟨t, _, HS.out.up 7 (by omega)⟩
      case rest =>
        obtain ⟨t, m, HS2⟩ := hcut
        clear HS
        have HS : Hid (St W p la xs lc n 7 wc m [(b, tbox t), (W.heap.size, tbox zeroT)]) := HS2
        have hle := HS.out.mill.le
        clear HS2 k0 k1 k2 k3 k4 g0 g1 g2
        obtain ⟨k0, k1, k2, k3, k4, g0, g1, g2⟩ := HS.out.tcells
        go_upto_if 92 with (first
    | (go_at_call 11; refine (c_n p la xs lc _ _ _ HS.out.mill.src (by omega) (by decide) (by decide)).mono ?_; rintro e w1 ⟨x, n1, rfl, ⟨hx1, hx2⟩, hS', hn', hm'⟩; (try clear k0 k1 k2 k3 k4 g0 g1 g2); have HS1 := Lib.hid (HS.out.step 1 hS' hn' hm'); have hle := HS1.out.mill.le; clear HS; have HS := HS1; clear HS1 hS' hn' hm'; try obtain ⟨k0, k1, k2, k3, k4, g0, g1, g2⟩ := HS.out.tcells))
        go_cut [] (fun wc => ∃ (t : Test) (m : Nat), Aside (St W p la xs lc n 10 wc m [(b, tbox t), (W.heap.size, tbox zeroT)]))
        case first =>
          go_wp2_with (first
    | (go_at_call 28; refine (c_range p la xs lc _ _ _ _ HS.out.mill.src (by omega) (by decide) (by decide) (by decide)).mono ?_; rintro e w1 ⟨x, n1, rfl, _, hS', hn', hm'⟩; (try clear k0 k1 k2 k3 k4 g0 g1 g2); have HS1 := Lib.hid (HS.out.step 1 hS' hn' hm'); have hle := HS1.out.mill.le; clear HS; have HS := HS1; clear HS1 hS' hn' hm'; try obtain ⟨k0, k1, k2, k3, k4, g0, g1, g2⟩ := HS.out.tcells))
          · go_meet
            exact ⟨⟨_, _, _, _, _⟩, _, (HS.out.cell 0 _ _ rfl (by decide) HD.out).cell 1 _ _ rfl (by decide) HD.out⟩
          · go_meet
            exact ⟨t, _, HS.out.up 10 (by omega)⟩
        case rest =>
          obtain ⟨t, m, HS2⟩ := hcut
          clear HS
          have HS : Hid (St W p la xs lc n 10 wc m [(b, tbox t), (W.heap.size, tbox zeroT)]) := HS2
          have hle := HS.out.mill.le
          clear HS2 k0 k1 k2 k3 k4 g0 g1 g2
          obtain ⟨k0, k1, k2, k3, k4, g0, g1, g2⟩ := HS.out.tcells
          have HZ1 := Lib.hid (HS.out.swap.row (cs' := #[.int .i64 t.field, .int .i64 t.op, .int .i64 t.num, .string t.text, .int .i64 t.other]) (by decide) (fun x hx => by rw [List.mem_singleton.1 hx]; exact Ne.symm (HD.out _ (List.mem_singleton.2 rfl))))
          go_wp2_with (first
    | (refine wpList_store_row (by rfl) 75 _ _ (by rfl) W.heap.size #[_, _, _, _, _] (by rfl) (by rfl) 75 _ HS.out.box2 (by kernel_rfl) (by rfl) (by kernel_rfl) ?_))
          refine bodyPost_ret (v := t.v) (results_cell_row (p := 4) (ty := 75) (by kernel_rfl) _ _ W.heap.size _ _ _ _ (by rfl) HZ1.out.box Tryz.underlying75 rfl (by kernel_rfl)) rfl ?_
          exact ⟨t, _, rfl, HZ1.out.mill⟩
end Go.Proofs.YtnbfenapnfbmeaaGreat
