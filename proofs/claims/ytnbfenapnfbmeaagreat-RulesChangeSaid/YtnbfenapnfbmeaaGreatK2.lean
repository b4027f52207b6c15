/- Contracts: the source of masks, paths and tests (kauditmake). -/
import Derived.Test.YtnbfenapnfbmeaaGreatK1
import Derived.Deep.RegionHeld3
import Derived.Laws.Concat
set_option linter.unusedSimpArgs false
set_option linter.unusedVariables false
namespace Go.Proofs.YtnbfenapnfbmeaaGreat
open Go.RowKit
theorem Src.mk' {W : World} {p : Nat} {la : Option Addr} {xs : List Int} {lc n : Nat} (h : Src W p la xs lc n) {W' : World} (hh : W'.heap = W.heap) : Src W' p la xs lc n :=
  ⟨by rw [hh]; exact h.blk, h.row.keep (fun b _ => by rw [hh]), h.le⟩
theorem Src.alloc {W : World} {p : Nat} {la : Option Addr} {xs : List Int} {lc n : Nat} (h : Src W p la xs lc n) (o : Obj) : Src (W.alloc o) p la xs lc n :=
  h.below ((Below.refl W.heap.size W).alloc (Nat.le_refl _) o) (Nat.le_refl _)
theorem Moved.alloc {p : Nat} {W V : World} (h : Moved p W V) (o : Obj) : Moved p W (V.alloc o) :=
  h.trans (Moved.of_below ((Below.refl V.heap.size V).alloc (Nat.le_refl _) o) (Nat.le_refl _))
theorem Moved.box {p : Nat} {W V : World} (h : Moved p W V) {b : Nat} {o : Obj} (hb : W.heap[b]? = some o) (hne : b ≠ p) : V.heap[b]? = some o :=
  (h.block b (lt_of_some hb) (fun e => hne (by cases e; rfl))).trans hb
theorem row_news {α : Type} (W : World) (E : TypeId) (f : α → Value) (ys : List α) (cells : Array Value) (hc : cells = (ys.map f).toArray) : RowAt (W.alloc (.cells cells E)) E 1 (fun x => [f x]) (some ⟨W.heap.size, 0, none⟩) ys := by
  intro j hj
  refine ⟨W.heap.size, 0, cells, (0, 0), rfl, heap_new _ _, fun i v hv => ?_⟩
  have hi : i = 0 := by
    have := (List.getElem?_eq_some_iff.1 hv).1
    simp at this
    exact this
  subst hi
  simp at hv
  subst hv
  subst hc
  simp [hj]
theorem c_pick_new (p : Nat) (la : Option Addr) (xs : List Int) (lc n : Nat) (ys : List Int) (k : Nat) (cells : Array Value) (W : World) (hS : Src W p la xs lc n) (hn : n ≤ 999999999) (hk : ys.length = k) (hc : cells = (ys.map fun x => Value.int .i64 x).toArray) (hl : 0 < ys.length) (hl2 : ys.length ≤ 1000000) :
    Calls Tryz.prog 31 #[.pointer (some ⟨p, 0, none⟩), .slice (some ⟨W.heap.size, 0, none⟩) k k] (W.alloc (.cells cells tInt)) (NPost W p la xs lc n 1 (fun x => x ∈ ys)) := by
  subst hk
  refine (c_pick p la xs lc n _ ys _ _ (hS.alloc _) hn (row_news W tInt (fun x => Value.int .i64 x) ys cells hc) hl hl2).mono ?_
  rintro e w' ⟨x, n', he, hx, hS', hn', hm'⟩
  exact ⟨x, n', he, hx, hS', hn', ((Moved.refl p W).alloc _).trans hm'⟩
theorem c_word_new (p : Nat) (la : Option Addr) (xs : List Int) (lc n : Nat) (ys : List ByteArray) (k : Nat) (cells : Array Value) (W : World) (hS : Src W p la xs lc n) (hn : n ≤ 999999999) (hk : ys.length = k) (hc : cells = (ys.map fun x => Value.string x).toArray) (hl : 0 < ys.length) (hl2 : ys.length ≤ 1000000) :
    Calls Tryz.prog 41 #[.pointer (some ⟨p, 0, none⟩), .slice (some ⟨W.heap.size, 0, none⟩) k k] (W.alloc (.cells cells tString)) (WPost W p la xs lc n 1 (fun x => x ∈ ys)) := by
  subst hk
  refine (c_word p la xs lc n _ ys _ _ (hS.alloc _) hn (row_news W tString (fun x => Value.string x) ys cells hc) hl hl2).mono ?_
  rintro e w' ⟨x, n', he, hx, hS', hn', hm'⟩
  exact ⟨x, n', he, hx, hS', hn', ((Moved.refl p W).alloc _).trans hm'⟩
/-- A source in a later world, at most k taken since. -/
structure Mill (W : World) (p : Nat) (la : Option Addr) (xs : List Int) (lc n k : Nat) (V : World) (m : Nat) : Prop where
  src : Src V p la xs lc m
  le : m ≤ n + k
  moved : Moved p W V
theorem Mill.start {W : World} {p : Nat} {la : Option Addr} {xs : List Int} {lc n : Nat} (h : Src W p la xs lc n) : Mill W p la xs lc n 0 W n := ⟨h, Nat.le_refl _, Moved.refl _ _⟩
theorem Mill.step {W V U : World} {p : Nat} {la : Option Addr} {xs : List Int} {lc n k m m' j : Nat} (h : Mill W p la xs lc n k V m) (hs : Src U p la xs lc m') (hm : m' ≤ m + j) (hv : Moved p V U) : Mill W p la xs lc n (k + j) U m' :=
  ⟨hs, by have := h.le; omega, h.moved.trans hv⟩
theorem Mill.up {W V : World} {p : Nat} {la : Option Addr} {xs : List Int} {lc n k m j : Nat} (h : Mill W p la xs lc n k V m) (hj : k ≤ j) : Mill W p la xs lc n j V m := ⟨h.src, Nat.le_trans h.le (Nat.add_le_add_left hj n), h.moved⟩
theorem Mill.alloc {W V : World} {p : Nat} {la : Option Addr} {xs : List Int} {lc n k m : Nat} (h : Mill W p la xs lc n k V m) (o : Obj) : Mill W p la xs lc n k (V.alloc o) m := ⟨h.src.alloc o, h.le, h.moved.alloc o⟩
def MaskPost (W : World) (p : Nat) (la : Option Addr) (xs : List Int) (lc n : Nat) (e : Ending) (W' : World) : Prop :=
  ∃ (x : Int) (n' : Nat), e = .returned (.int .u64 x) ∧ Mill W p la xs lc n 40 W' n'
set_option maxRecDepth 100000 in
set_option maxHeartbeats 1000000 in
theorem c_mask (p : Nat) (la : Option Addr) (xs : List Int) (lc n : Nat) (W : World) (hS : Src W p la xs lc n) (hn : n ≤ 999999000) :
    Calls Tryz.prog 42 #[.pointer (some ⟨p, 0, none⟩)] W (MaskPost W p la xs lc n) := by
  have HS := Lib.hid (Mill.start hS)
  clear hS
  go_enter Tryz.func42, Tryz.ntmps42
  go_upto_region 2 with (go_at_call 11; refine (c_n p la xs lc n _ _ HS.out.src (by omega) (by omega) (by omega)).mono ?_; rintro e w1 ⟨x, n1, rfl, ⟨hx1, hx2⟩, hS', hn', hm'⟩; have H1 := Lib.hid (HS.out.step hS' hn' hm'); have hn1 : n1 ≤ n + 1 := hn'; clear hS' hn' hm')
  by_cases h0 : x = 0
  · subst h0
    go_wp2
    go_ret
    exact ⟨_, _, rfl, H1.out.up (by omega)⟩
  by_cases h1 : x = 1
  · subst h1
    go_wp2_with (go_at_call 11; refine (c_n p la xs lc n1 _ _ H1.out.src (by omega) (by omega) (by omega)).mono ?_; rintro e w2 ⟨y, n2, rfl, ⟨hy1, hy2⟩, hS', hn', hm'⟩; have H2 := Lib.hid (H1.out.step hS' hn' hm'); clear hS' hn' hm')
    go_ret
    exact ⟨_, _, rfl, H2.out.up (by omega)⟩
  go_wp2
  generalize hb0 : (x == 0) = b0
  generalize hb1 : (x == 1) = b1
  clear h0 h1 hb0 hb1
  go_loopg [3, 4] 32 (fun gg s3 s4 wr => ∃ (k : Nat) (m : Int) (n' : Nat), k + gg = 32 ∧ s3 = .int .u64 m ∧ s4 = .int .i64 k ∧ n' ≤ n + 1 + k ∧ Aside (Mill W p la xs lc n (1 + k) wr n'))
  case atStart => exact ⟨0, 0, n1, rfl, rfl, rfl, by omega, H1.out.up (by omega)⟩
  case round =>
    obtain ⟨k, m, n', hg, rfl, rfl, hn', HW⟩ := hrel
    by_cases hk : (k : Int) < 32
    · go_wp2_with (go_at_call 11; refine (c_n p la xs lc n' _ _ HW.src (by omega) (by omega) (by omega)).mono ?_; rintro e w2 ⟨y, n2, rfl, ⟨hy1, hy2⟩, hS', hn2, hm'⟩; have H2 := Lib.hid (HW.step hS' hn2 hm'); clear hS' hm')
      go_roundg (gk - 1)
      case measure => omega
      case rel => exact ⟨k + 1, _, n2, by omega, rfl, by go_num, by omega, H2.out.up (by omega)⟩
    · go_wp2
      go_ret
      exact ⟨_, _, rfl, HW.up (by omega)⟩
def PathPostS (W : World) (p : Nat) (la : Option Addr) (xs : List Int) (lc n k : Nat) (e : Ending) (W' : World) : Prop :=
  ∃ (s : ByteArray) (n' : Nat), e = .returned (.string s) ∧ PathOk s ∧ Mill W p la xs lc n k W' n'
theorem letters : ∀ y ∈ ([⟨#[97]⟩, ⟨#[98]⟩, ⟨#[99]⟩, ⟨#[108]⟩, ⟨#[109]⟩] : List ByteArray), y.size ≤ 1 ∧ ∀ x ∈ y.toList, x.toNat < 128 := by decide +kernel
theorem ascii_add {s y : ByteArray} (hs : ∀ x ∈ s.toList, x.toNat < 128) (hy : ∀ x ∈ y.toList, x.toNat < 128) : ∀ x ∈ (s ++ (⟨#[47]⟩ ++ y)).toList, x.toNat < 128 := by
  intro x hx
  rw [ByteArray.toList_eq] at hx
  have hx2 : x ∈ s.data.toList ++ ([47] ++ y.data.toList) := by simpa using hx
  rcases List.mem_append.1 hx2 with h | h
  · exact hs x (by rw [ByteArray.toList_eq]; exact h)
  rcases List.mem_append.1 h with h | h
  · rw [List.mem_singleton.1 h]; decide
  · exact hy x (by rw [ByteArray.toList_eq]; exact h)
theorem size_add47 (s y : ByteArray) : (s ++ ((⟨#[47]⟩ : ByteArray) ++ y)).size = s.size + (1 + y.size) := by
  rw [ByteArray.size_append, ByteArray.size_append]; rfl
theorem picks_clean : ∀ x ∈ ([1, 1, 2, 2, 3] : List Int), 0 ≤ x ∧ x ≤ 3 := by decide
set_option maxRecDepth 100000 in
set_option maxHeartbeats 1000000 in
theorem c_clean (p : Nat) (la : Option Addr) (xs : List Int) (lc n : Nat) (W : World) (hS : Src W p la xs lc n) (hn : n ≤ 999999000) :
    Calls Tryz.prog 44 #[.pointer (some ⟨p, 0, none⟩)] W (PathPostS W p la xs lc n 4) := by
  have HS := Lib.hid (Mill.start hS)
  clear hS
  go_enter Tryz.func44, Tryz.ntmps44
  go_wp2_with (go_at_call 31; refine (c_pick_new p la xs lc n [1, 1, 2, 2, 3] _ _ _ HS.out.src (by omega) rfl rfl (by decide) (by decide)).mono ?_; rintro e w1 ⟨x, n1, rfl, hx, hS', hn', hm'⟩; obtain ⟨hx1, hx2⟩ := picks_clean x hx; have H1 := Lib.hid (HS.out.step hS' hn' hm'); have hn1 : n1 ≤ n + 1 := hn'; clear hS' hn' hm' hx)
  go_loopg [3, 4] 3 (fun gg s3 s4 wr => ∃ (k : Nat) (s : ByteArray) (n' : Nat), k + gg = 3 ∧ s3 = .string s ∧ s4 = .int .i64 (x - k) ∧ (k : Int) ≤ x ∧ n' ≤ n + 1 + k ∧ s.size ≤ 2 * k ∧ Aside (∀ x ∈ s.toList, x.toNat < 128) ∧ Aside (Mill W p la xs lc n (1 + k) wr n'))
  case atStart => exact ⟨0, ⟨#[]⟩, n1, rfl, rfl, by go_num, by omega, by omega, by decide, (fun x hx => by simp [ByteArray.toList_eq] at hx), H1.out.up (by omega)⟩
  case round =>
    obtain ⟨k, s, n', hg, rfl, rfl, hk, hn', hs, HA, HW⟩ := hrel
    by_cases hlt : (0 : Int) < x - k
    · go_wp2_with (go_at_call 41; refine (c_word_new p la xs lc n' [⟨#[97]⟩, ⟨#[98]⟩, ⟨#[99]⟩, ⟨#[108]⟩, ⟨#[109]⟩] _ _ _ HW.src (by omega) rfl rfl (by decide) (by decide)).mono ?_; rintro e w2 ⟨y, n2, rfl, hy, hS', hn2, hm'⟩; have HY := Lib.hid (letters y hy); have hy1 : y.size ≤ 1 := HY.out.1; have hs9 : s.size ≤ 6 := (by omega); have H2 := Lib.hid (HW.step hS' hn2 hm'); clear hS' hm' hy)
      go_roundg (gk - 1)
      case measure => omega
      case rel => exact ⟨k + 1, _, n2, by omega, rfl, by go_num, by omega, by omega, by rw [size_add47]; omega, ascii_add HA HY.out.2, H2.out.up (by omega)⟩
    · go_wp2
      go_ret
      exact ⟨_, _, rfl, ⟨by omega, HA⟩, HW.up (by omega)⟩
end Go.Proofs.YtnbfenapnfbmeaaGreat
