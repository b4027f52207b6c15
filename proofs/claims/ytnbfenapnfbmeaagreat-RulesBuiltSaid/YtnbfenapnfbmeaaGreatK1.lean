/- Contracts: the source of numbers (kauditmake): New, N, Range, Pick, Word. -/
import Derived.Test.YtnbfenapnfbmeaaGreatC8
import Derived.Test.YtnbfenapnfbmeaaGreatN2
import Derived.Deep.QuietTactic
import Derived.Deep.DeepCutAuto
import Derived.Deep.CutBlock
import Derived.Laws.Rows
import Derived.Deep.RegionHeld3
import Derived.Laws.Concat
set_option linter.unusedSimpArgs false
set_option linter.unusedVariables false
namespace Go.Proofs.YtnbfenapnfbmeaaGreat
open Go.RowKit
abbrev tSrc : TypeId := 63
abbrev tInt : TypeId := 3
def intCells (x : Int) : List Value := [.int .i64 x]
/-- The numbers of a list, wherever it lies, in blocks below p. -/
def SrcRow (W : World) (p : Nat) (la : Option Addr) (xs : List Int) : Prop :=
  ∀ j (h : j < xs.length), ∃ ad : Addr, la = some ad ∧ ad.block < p ∧ W.cell? (ad.add j) = some (.int .i64 xs[j])
theorem addr_block (a : Addr) (i : Nat) : (a.add i).block = a.block := by unfold Addr.add; split <;> rfl
theorem SrcRow.keep {W V : World} {p : Nat} {la : Option Addr} {xs : List Int} (h : SrcRow W p la xs) (hk : ∀ b, b < p → V.heap[b]? = W.heap[b]?) : SrcRow V p la xs := by
  intro j hj
  obtain ⟨ad, ha, hb, hc⟩ := h j hj
  refine ⟨ad, ha, hb, ?_⟩
  rw [← hc]
  unfold World.cell?
  rw [hk _ (by rw [addr_block]; exact hb)]
/-- A source of numbers at block p: the list and how many were taken. -/
structure Src (W : World) (p : Nat) (la : Option Addr) (xs : List Int) (lc n : Nat) : Prop where
  blk : W.heap[p]? = some (.cells #[.slice la xs.length lc, .int .i64 n] tSrc)
  row : SrcRow W p la xs
  le : n ≤ 1000000000
/-- Nothing that was there has turned but block p. -/
def Moved (p : Nat) (W W' : World) : Prop := W.grownBy W' (some p)
theorem Moved.refl (p : Nat) (W : World) : Moved p W W := ⟨rfl, rfl, rfl, Nat.le_refl _, fun _ _ _ => rfl⟩
theorem Moved.trans {p : Nat} {W V U : World} (h : Moved p W V) (k : Moved p V U) : Moved p W U :=
  ⟨k.os.trans h.os, k.tape.trans h.tape, k.output.trans h.output, Nat.le_trans h.size k.size, fun i hi hne => (k.block i (Nat.lt_of_lt_of_le hi h.size) hne).trans (h.block i hi hne)⟩
theorem Moved.of_below {p B : Nat} {W V : World} (h : Below B W V) (hB : W.heap.size ≤ B) : Moved p W V := ⟨h.os, h.tape, h.output, h.size, fun i hi _ => h.block i (Nat.lt_of_lt_of_le hi hB)⟩
theorem Moved.drewN {p : Nat} {W V : World} (h : Moved p W V) (n : Nat) : Moved p W (V.drewN n) := ⟨h.os, h.tape, h.output, h.size, h.block⟩
theorem Moved.keeps {p : Nat} {W V : World} {cs : Array Value} {t E : TypeId} (h : Moved p W V) (hp : W.heap[p]? = some (.cells cs t)) (hne : E ≠ t) : Keeps E W V := Keeps.grown h hp hne
theorem Src.keeps {p : Nat} {W V : World} {la : Option Addr} {xs : List Int} {lc n : Nat} {E : TypeId} (h : Src W p la xs lc n) (hm : Moved p W V) (hne : E ≠ tSrc) : Keeps E W V := hm.keeps h.blk hne
/-- The source behind a step that leaves it alone. -/
theorem Src.below {p B : Nat} {W V : World} {la : Option Addr} {xs : List Int} {lc n : Nat} (h : Src W p la xs lc n) (hb : Below B W V) (hB : W.heap.size ≤ B) : Src V p la xs lc n :=
  ⟨(hb.block p (Nat.lt_of_lt_of_le (lt_of_some h.blk) hB)).trans h.blk, h.row.keep (fun b hbp => hb.block b (Nat.lt_of_lt_of_le (Nat.lt_trans hbp (lt_of_some h.blk)) hB)), h.le⟩
def NPost (W : World) (p : Nat) (la : Option Addr) (xs : List Int) (lc n k : Nat) (P : Int → Prop) (e : Ending) (W' : World) : Prop :=
  ∃ (x : Int) (n' : Nat), e = .returned (.int .i64 x) ∧ P x ∧ Src W' p la xs lc n' ∧ n' ≤ n + k ∧ Moved p W W'
theorem tmod_range (x n : Int) (hn : 1 ≤ n) : -n < x.tmod n ∧ x.tmod n < n := by
  constructor
  · have h1 := Int.tmod_lt_of_pos (-x) (show 0 < n by omega)
    rw [Int.neg_tmod] at h1
    omega
  · exact Int.tmod_lt_of_pos x (by omega)
theorem Moved.setCell (p i : Nat) (v : Value) (W : World) : Moved p W (W.setCell ⟨p, i, none⟩ v) :=
  ⟨rfl, rfl, rfl, by simp [World.setCell], fun k _ hne => heap_setCell_other W _ k v (fun e => hne (by rw [e]))⟩
theorem Src.setAt {W : World} {p : Nat} {la : Option Addr} {xs : List Int} {lc n : Nat} (h : Src W p la xs lc n) (m : Nat) (hm : m ≤ 1000000000) : Src (W.setCell ⟨p, 1, none⟩ (.int .i64 m)) p la xs lc m :=
  ⟨by rw [heap_setCell_same _ _ _ _ _ _ h.blk]; rfl, h.row.keep (fun b hb => (Moved.setCell p 1 _ W).block b (Nat.lt_trans hb (lt_of_some h.blk)) (fun e => by cases e; omega)), hm⟩
set_option maxRecDepth 100000 in
set_option maxHeartbeats 1000000 in
theorem c_n (p : Nat) (la : Option Addr) (xs : List Int) (lc n : Nat) (m : Int) (W : World) (hS : Src W p la xs lc n) (hn : n ≤ 999999999) (hm : 1 ≤ m) (hm2 : m ≤ 4611686018427387904) :
    Calls Tryz.prog 11 #[.pointer (some ⟨p, 0, none⟩), .int .i64 m] W (NPost W p la xs lc n 1 (fun x => 0 ≤ x ∧ x < m)) := by
  have hm3 : ¬ m < 1 := by omega
  have hm0 : m ≠ 0 := by omega
  have c0 := cell_of_block hS.blk 0
  have c1 := cell_of_block hS.blk 1
  have f1 := frozen_of_block hS.blk 1
  simp at c0 c1
  have HS := Lib.hid hS
  clear hS
  go_enter Tryz.func11, Tryz.ntmps11
  go_upto_region 4 with fail
  have H1 := Lib.hid (HS.out.setAt (n + 1) (by omega))
  have HM := Lib.hid (Moved.setCell p 1 (.int .i64 ((n : Int) + 1)) W)
  obtain ⟨W1, hW1⟩ : ∃ W1, W1 = W.setCell ⟨p, 1, none⟩ (.int .i64 ((n : Int) + 1)) := ⟨_, rfl⟩
  rw [← hW1] at HM ⊢
  rw [show ((n + 1 : Nat) : Int) = (n : Int) + 1 by omega, ← hW1] at H1
  clear hW1 c0 c1 f1
  have c0 := cell_of_block H1.out.blk 0
  have c1 := cell_of_block H1.out.blk 1
  simp at c0 c1
  by_cases hl : (n : Int) + 1 ≤ xs.length
  · have hlt : n < xs.length := by omega
    obtain ⟨ad, ha, hb, c2⟩ := H1.out.row n hlt
    have HA := Lib.hid ha
    subst ha
    clear hb
    generalize hxn : xs[n] = x at c2
    obtain ⟨hr1, hr2⟩ := tmod_range x m hm
    clear HA hxn
    go_upto_region 5 with fail
    go_quiet (fail)
    go_upto_region 6 with fail
    go_quiet (fail)
    go_wp2_with fail
    all_goals go_ret
    · rename_i h0
      exact ⟨_, _, rfl, ⟨by omega, by omega⟩, ⟨H1.out.blk, H1.out.row.keep (fun _ _ => rfl), H1.out.le⟩, by omega, HM.out.drewN _⟩
    · rename_i h0
      exact ⟨_, _, rfl, ⟨by omega, by omega⟩, ⟨H1.out.blk, H1.out.row.keep (fun _ _ => rfl), H1.out.le⟩, by omega, HM.out.drewN _⟩
  · go_upto_region 5 with fail
    go_quiet (fail)
    go_wp2_with fail
    go_ret
    exact ⟨_, _, rfl, ⟨Int.emod_nonneg _ hm0, Int.emod_lt_of_pos _ (by omega)⟩, ⟨H1.out.blk, H1.out.row.keep (fun _ _ => rfl), H1.out.le⟩, by omega, HM.out.drewN _⟩
set_option maxRecDepth 100000 in
set_option maxHeartbeats 1000000 in
theorem c_range (p : Nat) (la : Option Addr) (xs : List Int) (lc n : Nat) (lo hi : Int) (W : World) (hS : Src W p la xs lc n) (hn : n ≤ 999999999) (h1 : lo ≤ hi) (h2 : -1000000 ≤ lo) (h3 : hi ≤ 1000000) :
    Calls Tryz.prog 28 #[.pointer (some ⟨p, 0, none⟩), .int .i64 lo, .int .i64 hi] W (NPost W p la xs lc n 1 (fun x => lo ≤ x ∧ x ≤ hi)) := by
  have HS := Lib.hid hS
  clear hS
  go_enter Tryz.func28, Tryz.ntmps28
  go_wp2_with (go_at_call 11; refine (c_n p la xs lc n _ _ HS.out hn (by omega) (by omega)).mono ?_; rintro e w' ⟨x, n', rfl, ⟨hx1, hx2⟩, hS', hn', hm'⟩)
  go_ret
  exact ⟨_, n', rfl, ⟨by omega, by omega⟩, hS', hn', hm'⟩
/-- Element j of a row of single cells. -/
theorem RowAt.one {α : Type} {w : World} {E : TypeId} {f : α → Value} {a : Option Addr} {xs : List α} (h : RowAt w E 1 (fun x => [f x]) a xs) {b off : Nat} (ha : a = some ⟨b, off, none⟩) (j : Nat) (hj : j < xs.length) :
    w.cell? ⟨b, off + j, none⟩ = some (f xs[j]) := by
  obtain ⟨b', off', cs, fz, ha', hb, hc⟩ := h j hj
  rw [ha] at ha'
  cases ha'
  have := hc 0 (f xs[j]) rfl
  simp only [Nat.mul_one, Nat.add_zero] at this
  simp [World.cell?, hb, this]
theorem RowAt.addr {α : Type} {w : World} {E : TypeId} {sz : Nat} {enc : α → List Value} {a : Option Addr} {xs : List α} (h : RowAt w E sz enc a xs) (hl : 0 < xs.length) : ∃ b off, a = some ⟨b, off, none⟩ := by
  obtain ⟨b, off, _, _, ha, _⟩ := h 0 hl
  exact ⟨b, off, ha⟩
set_option maxRecDepth 100000 in
set_option maxHeartbeats 1000000 in
theorem c_pick (p : Nat) (la : Option Addr) (xs : List Int) (lc n : Nat) (a : Option Addr) (ys : List Int) (c : Nat) (W : World) (hS : Src W p la xs lc n) (hn : n ≤ 999999999) (hr : RowAt W tInt 1 intCells a ys) (hl : 0 < ys.length) (hl2 : ys.length ≤ 1000000) :
    Calls Tryz.prog 31 #[.pointer (some ⟨p, 0, none⟩), .slice a ys.length c] W (NPost W p la xs lc n 1 (fun x => x ∈ ys)) := by
  obtain ⟨b, off, rfl⟩ := hr.addr hl
  have HS := Lib.hid hS
  have HR := Lib.hid hr
  clear hS hr
  go_enter Tryz.func31, Tryz.ntmps31
  go_wp2_with (go_at_call 11; refine (c_n p la xs lc n _ _ HS.out hn (by omega) (by omega)).mono ?_; rintro e w' ⟨x, n', rfl, ⟨hx1, hx2⟩, hS', hn', hm'⟩; obtain ⟨j, rfl⟩ : ∃ j : Nat, x = j := ⟨x.toNat, by omega⟩; have hj : j < ys.length := (by omega); have hcell := RowAt.one (f := fun x => .int .i64 x) (HR.out.keep (HS.out.keeps hm' (by decide))) rfl j hj; have HS' := Lib.hid hS'; have HM' := Lib.hid hm'; clear hS' hm')
  go_ret
  exact ⟨_, n', rfl, List.getElem_mem hj, HS'.out, hn', HM'.out⟩
abbrev tString : TypeId := 9
/-- A text of a source. -/
def WPost (W : World) (p : Nat) (la : Option Addr) (xs : List Int) (lc n k : Nat) (P : ByteArray → Prop) (e : Ending) (W' : World) : Prop :=
  ∃ (x : ByteArray) (n' : Nat), e = .returned (.string x) ∧ P x ∧ Src W' p la xs lc n' ∧ n' ≤ n + k ∧ Moved p W W'
set_option maxRecDepth 100000 in
set_option maxHeartbeats 1000000 in
theorem c_word (p : Nat) (la : Option Addr) (xs : List Int) (lc n : Nat) (a : Option Addr) (ys : List ByteArray) (c : Nat) (W : World) (hS : Src W p la xs lc n) (hn : n ≤ 999999999) (hr : RowAt W tString 1 strCells a ys) (hl : 0 < ys.length) (hl2 : ys.length ≤ 1000000) :
    Calls Tryz.prog 41 #[.pointer (some ⟨p, 0, none⟩), .slice a ys.length c] W (WPost W p la xs lc n 1 (fun x => x ∈ ys)) := by
  obtain ⟨b, off, rfl⟩ := hr.addr hl
  have HS := Lib.hid hS
  have HR := Lib.hid hr
  clear hS hr
  go_enter Tryz.func41, Tryz.ntmps41
  go_wp2_with (go_at_call 11; refine (c_n p la xs lc n _ _ HS.out hn (by omega) (by omega)).mono ?_; rintro e w' ⟨x, n', rfl, ⟨hx1, hx2⟩, hS', hn', hm'⟩; obtain ⟨j, rfl⟩ : ∃ j : Nat, x = j := ⟨x.toNat, by omega⟩; have hj : j < ys.length := (by omega); have hcell := RowAt.one (f := fun x => .string x) (HR.out.keep (HS.out.keeps hm' (by decide))) rfl j hj; have HS' := Lib.hid hS'; have HM' := Lib.hid hm'; clear hS' hm')
  go_ret
  exact ⟨_, n', rfl, List.getElem_mem hj, HS'.out, hn', HM'.out⟩
end Go.Proofs.YtnbfenapnfbmeaaGreat
/- Contracts: the source of masks, paths and tests (kauditmake). -/
set_option linter.unusedSimpArgs false
set_option linter.unusedVariables false
namespace Go.Proofs.YtnbfenapnfbmeaaGreat
open Go.RowKit
theorem Src.mk' {W : World} {p : Nat} {la : Option Addr} {xs : List Int} {lc n : Nat} (h : Src W p la xs lc n) {W' : World} (hh : W'.heap = W.heap) : Src W' p la xs lc n :=
  ⟨by rw [hh]; exact h.blk, h.row.keep (fun b _ => by rw [hh]), h.le⟩
theorem Src.alloc {W : World} {p : Nat} {la : Option Addr} {xs : List Int} {lc n : Nat} (h : Src W p la xs lc n) (o : Obj) : Src (W.alloc o) p la xs lc n :=
  h.below ((Below.refl W.heap.size W).alloc (Nat.le_refl _) o) (Nat.le_refl _)
theorem Moved.alloc {p : Nat} {W V : World} (h : Moved p W V) (o : Obj) : Moved p W (V.alloc o) :=
  h.trans (Moved.of_below ((Below.refl V.heap.size V).alloc (Nat.le_refl _) o) (Nat.le_refl _))
theorem Moved.box {p : Nat} {W V : World} (h : Moved p W V) {b : Nat} {o : Obj} (hb : W.heap[b]? = some o) (hne : b ≠ p) : V.heap[b]? = some o :=
  (h.block b (lt_of_some hb) (fun e => hne (by cases e; rfl))).trans hb
theorem row_news {α : Type} (W : World) (E : TypeId) (f : α → Value) (ys : List α) (cells : Array Value) (hc : cells = (ys.map f).toArray) : RowAt (W.alloc (.cells cells E)) E 1 (fun x => [f x]) (some ⟨W.heap.size, 0, none⟩) ys := by
  intro j hj
  refine ⟨W.heap.size, 0, cells, (0, 0), rfl, heap_new _ _, fun i v hv => ?_⟩
  have hi : i = 0 := by
    have := (List.getElem?_eq_some_iff.1 hv).1
    simp at this
    exact this
  subst hi
  simp at hv
  subst hv
  subst hc
  simp [hj]
theorem c_pick_new (p : Nat) (la : Option Addr) (xs : List Int) (lc n : Nat) (ys : List Int) (k : Nat) (cells : Array Value) (W : World) (hS : Src W p la xs lc n) (hn : n ≤ 999999999) (hk : ys.length = k) (hc : cells = (ys.map fun x => Value.int .i64 x).toArray) (hl : 0 < ys.length) (hl2 : ys.length ≤ 1000000) :
    Calls Tryz.prog 31 #[.pointer (some ⟨p, 0, none⟩), .slice (some ⟨W.heap.size, 0, none⟩) k k] (W.alloc (.cells cells tInt)) (NPost W p la xs lc n 1 (fun x => x ∈ ys)) := by
  subst hk
  refine (c_pick p la xs lc n _ ys _ _ (hS.alloc _) hn (row_news W tInt (fun x => Value.int .i64 x) ys cells hc) hl hl2).mono ?_
  rintro e w' ⟨x, n', he, hx, hS', hn', hm'⟩
  exact ⟨x, n', he, hx, hS', hn', ((Moved.refl p W).alloc _).trans hm'⟩
theorem c_word_new (p : Nat) (la : Option Addr) (xs : List Int) (lc n : Nat) (ys : List ByteArray) (k : Nat) (cells : Array Value) (W : World) (hS : Src W p la xs lc n) (hn : n ≤ 999999999) (hk : ys.length = k) (hc : cells = (ys.map fun x => Value.string x).toArray) (hl : 0 < ys.length) (hl2 : ys.length ≤ 1000000) :
    Calls Tryz.prog 41 #[.pointer (some ⟨p, 0, none⟩), .slice (some ⟨W.heap.size, 0, none⟩) k k] (W.alloc (.cells cells tString)) (WPost W p la xs lc n 1 (fun x => x ∈ ys)) := by
  subst hk
  refine (c_word p la xs lc n _ ys _ _ (hS.alloc _) hn (row_news W tString (fun x => Value.string x) ys cells hc) hl hl2).mono ?_
  rintro e w' ⟨x, n', he, hx, hS', hn', hm'⟩
  exact ⟨x, n', he, hx, hS', hn', ((Moved.refl p W).alloc _).trans hm'⟩
/-- A source in a later world, at most k taken since. -/
structure Mill (W : World) (p : Nat) (la : Option Addr) (xs : List Int) (lc n k : Nat) (V : World) (m : Nat) : Prop where
  src : Src V p la xs lc m
  le : m ≤ n + k
  moved : Moved p W V
theorem Mill.start {W : World} {p : Nat} {la : Option Addr} {xs : List Int} {lc n : Nat} (h : Src W p la xs lc n) : Mill W p la xs lc n 0 W n := ⟨h, Nat.le_refl _, Moved.refl _ _⟩
theorem Mill.step {W V U : World} {p : Nat} {la : Option Addr} {xs : List Int} {lc n k m m' j : Nat} (h : Mill W p la xs lc n k V m) (hs : Src U p la xs lc m') (hm : m' ≤ m + j) (hv : Moved p V U) : Mill W p la xs lc n (k + j) U m' :=
  ⟨hs, by have := h.le; omega, h.moved.trans hv⟩
theorem Mill.up {W V : World} {p : Nat} {la : Option Addr} {xs : List Int} {lc n k m j : Nat} (h : Mill W p la xs lc n k V m) (hj : k ≤ j) : Mill W p la xs lc n j V m := ⟨h.src, Nat.le_trans h.le (Nat.add_le_add_left hj n), h.moved⟩
theorem Mill.alloc {W V : World} {p : Nat} {la : Option Addr} {xs : List Int} {lc n k m : Nat} (h : Mill W p la xs lc n k V m) (o : Obj) : Mill W p la xs lc n k (V.alloc o) m := ⟨h.src.alloc o, h.le, h.moved.alloc o⟩
def MaskPost (W : World) (p : Nat) (la : Option Addr) (xs : List Int) (lc n : Nat) (e : Ending) (W' : World) : Prop :=
  ∃ (x : Int) (n' : Nat), e = .returned (.int .u64 x) ∧ Mill W p la xs lc n 40 W' n'
set_option maxRecDepth 100000 in
set_option maxHeartbeats 1000000 in
theorem c_mask (p : Nat) (la : Option Addr) (xs : List Int) (lc n : Nat) (W : World) (hS : Src W p la xs lc n) (hn : n ≤ 999999000) :
    Calls Tryz.prog 42 #[.pointer (some ⟨p, 0, none⟩)] W (MaskPost W p la xs lc n) := by
  have HS := Lib.hid (Mill.start hS)
  clear hS
  go_enter Tryz.func42, Tryz.ntmps42
  go_upto_region 2 with (go_at_call 11; refine (c_n p la xs lc n _ _ HS.out.src (by omega) (by omega) (by omega)).mono ?_; rintro e w1 ⟨x, n1, rfl, ⟨hx1, hx2⟩, hS', hn', hm'⟩; have H1 := Lib.hid (HS.out.step hS' hn' hm'); have hn1 : n1 ≤ n + 1 := hn'; clear hS' hn' hm')
  by_cases h0 : x = 0
  · subst h0
    go_wp2
    go_ret
    exact ⟨_, _, rfl, H1.out.up (by omega)⟩
  by_cases h1 : x = 1
  · subst h1
    go_wp2_with (go_at_call 11; refine (c_n p la xs lc n1 _ _ H1.out.src (by omega) (by omega) (by omega)).mono ?_; rintro e w2 ⟨y, n2, rfl, ⟨hy1, hy2⟩, hS', hn', hm'⟩; have H2 := Lib.hid (H1.out.step hS' hn' hm'); clear hS' hn' hm')
    go_ret
    exact ⟨_, _, rfl, H2.out.up (by omega)⟩
  go_wp2
  generalize hb0 : (x == 0) = b0
  generalize hb1 : (x == 1) = b1
  clear h0 h1 hb0 hb1
  go_loopg [3, 4] 32 (fun gg s3 s4 wr => ∃ (k : Nat) (m : Int) (n' : Nat), k + gg = 32 ∧ s3 = .int .u64 m ∧ s4 = .int .i64 k ∧ n' ≤ n + 1 + k ∧ Aside (Mill W p la xs lc n (1 + k) wr n'))
  case atStart => exact ⟨0, 0, n1, rfl, rfl, rfl, by omega, H1.out.up (by omega)⟩
  case round =>
    obtain ⟨k, m, n', hg, rfl, rfl, hn', HW⟩ := hrel
    by_cases hk : (k : Int) < 32
    · go_wp2_with (go_at_call 11; refine (c_n p la xs lc n' _ _ HW.src (by omega) (by omega) (by omega)).mono ?_; rintro e w2 ⟨y, n2, rfl, ⟨hy1, hy2⟩, hS', hn2, hm'⟩; have H2 := Lib.hid (HW.step hS' hn2 hm'); clear hS' hm')
      go_roundg (gk - 1)
      case measure => omega
      case rel => exact ⟨k + 1, _, n2, by omega, rfl, by go_num, by omega, H2.out.up (by omega)⟩
    · go_wp2
      go_ret
      exact ⟨_, _, rfl, HW.up (by omega)⟩
def PathPostS (W : World) (p : Nat) (la : Option Addr) (xs : List Int) (lc n k : Nat) (e : Ending) (W' : World) : Prop :=
  ∃ (s : ByteArray) (n' : Nat), e = .returned (.string s) ∧ PathOk s ∧ Mill W p la xs lc n k W' n'
theorem letters : ∀ y ∈ ([⟨#[97]⟩, ⟨#[98]⟩, ⟨#[99]⟩, ⟨#[108]⟩, ⟨#[109]⟩] : List ByteArray), y.size ≤ 1 ∧ ∀ x ∈ y.toList, x.toNat < 128 := by decide +kernel
theorem ascii_add {s y : ByteArray} (hs : ∀ x ∈ s.toList, x.toNat < 128) (hy : ∀ x ∈ y.toList, x.toNat < 128) : ∀ x ∈ (s ++ (⟨#[47]⟩ ++ y)).toList, x.toNat < 128 := by
  intro x hx
  rw [ByteArray.toList_eq] at hx
  have hx2 : x ∈ s.data.toList ++ ([47] ++ y.data.toList) := by simpa using hx
  rcases List.mem_append.1 hx2 with h | h
  · exact hs x (by rw [ByteArray.toList_eq]; exact h)
  rcases List.mem_append.1 h with h | h
  · rw [List.mem_singleton.1 h]; decide
  · exact hy x (by rw [ByteArray.toList_eq]; exact h)
theorem size_add47 (s y : ByteArray) : (s ++ ((⟨#[47]⟩ : ByteArray) ++ y)).size = s.size + (1 + y.size) := by
  rw [ByteArray.size_append, ByteArray.size_append]; rfl
theorem picks_clean : ∀ x ∈ ([1, 1, 2, 2, 3] : List Int), 0 ≤ x ∧ x ≤ 3 := by decide
set_option maxRecDepth 100000 in
set_option maxHeartbeats 1000000 in
theorem c_clean (p : Nat) (la : Option Addr) (xs : List Int) (lc n : Nat) (W : World) (hS : Src W p la xs lc n) (hn : n ≤ 999999000) :
    Calls Tryz.prog 44 #[.pointer (some ⟨p, 0, none⟩)] W (PathPostS W p la xs lc n 4) := by
  have HS := Lib.hid (Mill.start hS)
  clear hS
  go_enter Tryz.func44, Tryz.ntmps44
  go_wp2_with (go_at_call 31; refine (c_pick_new p la xs lc n [1, 1, 2, 2, 3] _ _ _ HS.out.src (by omega) rfl rfl (by decide) (by decide)).mono ?_; rintro e w1 ⟨x, n1, rfl, hx, hS', hn', hm'⟩; obtain ⟨hx1, hx2⟩ := picks_clean x hx; have H1 := Lib.hid (HS.out.step hS' hn' hm'); have hn1 : n1 ≤ n + 1 := hn'; clear hS' hn' hm' hx)
  go_loopg [3, 4] 3 (fun gg s3 s4 wr => ∃ (k : Nat) (s : ByteArray) (n' : Nat), k + gg = 3 ∧ s3 = .string s ∧ s4 = .int .i64 (x - k) ∧ (k : Int) ≤ x ∧ n' ≤ n + 1 + k ∧ s.size ≤ 2 * k ∧ Aside (∀ x ∈ s.toList, x.toNat < 128) ∧ Aside (Mill W p la xs lc n (1 + k) wr n'))
  case atStart => exact ⟨0, ⟨#[]⟩, n1, rfl, rfl, by go_num, by omega, by omega, by decide, (fun x hx => by simp [ByteArray.toList_eq] at hx), H1.out.up (by omega)⟩
  case round =>
    obtain ⟨k, s, n', hg, rfl, rfl, hk, hn', hs, HA, HW⟩ := hrel
    by_cases hlt : (0 : Int) < x - k
    · go_wp2_with (go_at_call 41; refine (c_word_new p la xs lc n' [⟨#[97]⟩, ⟨#[98]⟩, ⟨#[99]⟩, ⟨#[108]⟩, ⟨#[109]⟩] _ _ _ HW.src (by omega) rfl rfl (by decide) (by decide)).mono ?_; rintro e w2 ⟨y, n2, rfl, hy, hS', hn2, hm'⟩; have HY := Lib.hid (letters y hy); have hy1 : y.size ≤ 1 := HY.out.1; have hs9 : s.size ≤ 6 := (by omega); have H2 := Lib.hid (HW.step hS' hn2 hm'); clear hS' hm' hy)
      go_roundg (gk - 1)
      case measure => omega
      case rel => exact ⟨k + 1, _, n2, by omega, rfl, by go_num, by omega, by omega, by rw [size_add47]; omega, ascii_add HA HY.out.2, H2.out.up (by omega)⟩
    · go_wp2
      go_ret
      exact ⟨_, _, rfl, ⟨by omega, HA⟩, HW.up (by omega)⟩
end Go.Proofs.YtnbfenapnfbmeaaGreat
