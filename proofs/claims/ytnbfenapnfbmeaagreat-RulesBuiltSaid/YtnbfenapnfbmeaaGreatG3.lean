/- Contracts: elements are looked for by a closure (items, tests). -/
import Derived.Test.YtnbfenapnfbmeaaGreatG2
import Derived.Shelf.Abstract
set_option linter.unusedSimpArgs false
set_option linter.unusedVariables false
namespace Go.Proofs.YtnbfenapnfbmeaaGreat
open Go.RowKit
abbrev tItem : TypeId := 69
def ItemsAt (w : World) (a : Option Addr) (xs : List Item) : Prop := xs.length ≤ 1000000 ∧ RowAt w tItem 13 Item.cells a xs
theorem ItemsAt.keep {w w' : World} {a : Option Addr} {xs : List Item} (h : ItemsAt w a xs) (hk : Keeps tItem w w') : ItemsAt w' a xs := ⟨h.1, h.2.keep hk⟩
theorem ItemsAt.below {w w' : World} {B : Nat} {a : Option Addr} {xs : List Item} (h : ItemsAt w a xs) (hb : Below B w w') (hB : w.heap.size ≤ B) : ItemsAt w' a xs := h.keep (Keeps.below hb hB)
theorem ItemsAt.at {w wr : World} {a : Option Addr} {xs : List Item} (h : ItemsAt w a xs) (hb : Below w.heap.size w wr) (k : Nat) (hk : k < xs.length) :
    ∃ b off, a = some ⟨b, off, none⟩ ∧ b < w.heap.size ∧
      wr.cell? ⟨b, off + k * 13, none⟩ = some (.string xs[k].given) ∧ wr.cell? ⟨b, off + k * 13 + 1, none⟩ = some (.string xs[k].path) ∧ wr.cell? ⟨b, off + k * 13 + 2, none⟩ = some (.int .i64 xs[k].dd) ∧ wr.cell? ⟨b, off + k * 13 + 3, none⟩ = some (.int .i64 xs[k].di) ∧ wr.cell? ⟨b, off + k * 13 + 4, none⟩ = some (.string xs[k].name) ∧ wr.cell? ⟨b, off + k * 13 + 5, none⟩ = some (.int .i64 xs[k].fd) ∧ wr.cell? ⟨b, off + k * 13 + 6, none⟩ = some (.int .i64 xs[k].fi) ∧ wr.cell? ⟨b, off + k * 13 + 7, none⟩ = some (.int .i64 xs[k].role) ∧ wr.cell? ⟨b, off + k * 13 + 8, none⟩ = some (.int .i64 xs[k].kind) ∧ wr.cell? ⟨b, off + k * 13 + 9, none⟩ = some (.int .i64 xs[k].mode) ∧ wr.cell? ⟨b, off + k * 13 + 10, none⟩ = some (.int .i64 xs[k].uid) ∧ wr.cell? ⟨b, off + k * 13 + 11, none⟩ = some (.int .i64 xs[k].gid) ∧ wr.cell? ⟨b, off + k * 13 + 12, none⟩ = some (.int .i64 xs[k].perm) := by
  obtain ⟨b, off, cs, fz, ha, hh, hc⟩ := h.2 k hk
  have hlt := lt_of_some hh
  have hw : wr.heap[b]? = some (.cells cs tItem fz) := (hb.block b hlt).trans hh
  have c : ∀ i v, (xs[k]).cells[i]? = some v → wr.cell? ⟨b, off + k * 13 + i, none⟩ = some v := fun i v hv => by rw [World.cell?]; simp only [hw]; exact hc i v hv
  exact ⟨b, off, ha, hlt, c 0 _ rfl, c 1 _ rfl, c 2 _ rfl, c 3 _ rfl, c 4 _ rfl, c 5 _ rfl, c 6 _ rfl, c 7 _ rfl, c 8 _ rfl, c 9 _ rfl, c 10 _ rfl, c 11 _ rfl, c 12 _ rfl⟩
theorem findIdx_any {α : Type} (p : α → Bool) (k : Nat) (l : List α) : decide (0 ≤ findIdx p k l) = l.any p := by
  induction l generalizing k with
  | nil => rfl
  | cons x l ih =>
    rw [findIdx, List.any_cons]
    cases p x
    · simpa using ih (k + 1)
    · simp
set_option maxRecDepth 100000 in
set_option maxHeartbeats 1000000 in
theorem c_indexItem (a : Option Addr) (c : Nat) (xs : List Item) (g : Nat) (lb : Array Value) (eg : ∀ args w, (callFunc g args).run Tryz.prog w = .ok (.enter g args) w) (p : Item → Bool) (w : World) (hl : ItemsAt w a xs)
    (hp : ∀ (W : World) (x : Item), Below w.heap.size w W → x ∈ xs → Calls Tryz.prog g (#[x.v] ++ lb) W (HoldsPost W (p x))) :
    Calls Tryz.prog 86 #[.slice a xs.length c, .func (.func g) #[] lb] w fun e w' => e = .returned (.int .i64 (findIdx p 0 xs)) ∧ Below w.heap.size w w' := by
  have hl1 := hl.1
  have HL := Lib.hid hl
  have HP := Lib.hid hp
  clear hl hp
  go_enter Tryz.func86, Tryz.ntmps86
  go_wp2
  go_loopg [8] xs.length (fun gg i wr => ∃ k : Nat, k ≤ xs.length ∧ xs.length - k ≤ gg ∧ i = .int .i64 k ∧ Aside (findIdx p 0 xs = findIdx p k (xs.drop k)) ∧ Aside (Below w.heap.size w wr))
  case atStart => exact ⟨0, Nat.zero_le _, by omega, rfl, rfl, Below.refl _ _⟩
  case round =>
    obtain ⟨k, hk, hg, rfl, HT, HB⟩ := hrel
    by_cases hlt : k < xs.length
    · obtain ⟨b, o, ha, hb, d0, d1, d2, d3, d4, d5, d6, d7, d8, d9, d10, d11, d12⟩ := HL.out.at HB.out k hlt
      have hs := findIdx_drop p xs k hlt
      have hmem := List.getElem_mem hlt
      generalize xs[k] = x at d0 d1 d2 d3 d4 d5 d6 d7 d8 d9 d10 d11 d12 hs hmem
      have HS := Lib.hid hs
      have hcall := HP.out wr x HB.out hmem
      clear hs hmem
      have hl2 : (k : Int) < (xs.length : Int) := by omega
      subst ha
      cases hq : p x with
      | true =>
        rw [hq] at HS
        rw [hq] at hcall
        clear hq
        go_wp2_with (go_at_fn g; refine hcall.mono ?_; rintro e w' ⟨rfl, hb'⟩)
        go_ret
        exact ⟨ret_int (by rw [HT, HS.out, if_pos trivial]), HB.out.trans (hb'.mono HB.out.size)⟩
      | false =>
        rw [hq] at HS
        rw [hq] at hcall
        clear hq
        go_wp2_with (go_at_fn g; refine hcall.mono ?_; rintro e w' ⟨rfl, hb'⟩)
        go_roundg (xs.length - (k + 1))
        case measure => omega
        case rel => exact ⟨k + 1, by omega, by omega, by go_num, (by show _ = _; rw [HT, HS.out]; simp), HB.out.trans (hb'.mono HB.out.size)⟩
    · have he : k = xs.length := by omega
      have hn : ¬ (k : Int) < (xs.length : Int) := by omega
      have hz : findIdx p 0 xs = -1 := by rw [HT, he, List.drop_length]; rfl
      have HZ := Lib.hid hz
      clear hz he HT
      go_wp2
      go_ret
      exact ⟨ret_int HZ.out.symm, HB.out⟩
set_option maxRecDepth 100000 in
theorem c_containsItem (a : Option Addr) (c : Nat) (xs : List Item) (g : Nat) (lb : Array Value) (eg : ∀ args w, (callFunc g args).run Tryz.prog w = .ok (.enter g args) w) (p : Item → Bool) (w : World) (hl : ItemsAt w a xs)
    (hp : ∀ (W : World) (x : Item), Below w.heap.size w W → x ∈ xs → Calls Tryz.prog g (#[x.v] ++ lb) W (HoldsPost W (p x))) :
    Calls Tryz.prog 63 #[.slice a xs.length c, .func (.func g) #[] lb] w (HoldsPost w (xs.any p)) := by
  have hcall := c_indexItem a c xs g lb eg p w hl hp
  have hany := findIdx_any p 0 xs
  clear hl hp
  generalize findIdx p 0 xs = n at hcall hany
  have HANY := Lib.hid hany
  clear hany
  go_enter Tryz.func63, Tryz.ntmps63
  go_wp2_with (go_at_call 86; refine hcall.mono ?_; rintro e w' ⟨rfl, hb'⟩)
  all_goals
    go_ret
    exact ⟨ret_bool HANY.out, hb'⟩
set_option maxRecDepth 100000 in
set_option maxHeartbeats 1000000 in
theorem c_indexTest (a : Option Addr) (c : Nat) (xs : List Test) (g : Nat) (lb : Array Value) (eg : ∀ args w, (callFunc g args).run Tryz.prog w = .ok (.enter g args) w) (p : Test → Bool) (w : World) (hl : TestsAt w a xs)
    (hp : ∀ (W : World) (x : Test), Below w.heap.size w W → x ∈ xs → Calls Tryz.prog g (#[x.v] ++ lb) W (HoldsPost W (p x))) :
    Calls Tryz.prog 59 #[.slice a xs.length c, .func (.func g) #[] lb] w fun e w' => e = .returned (.int .i64 (findIdx p 0 xs)) ∧ Below w.heap.size w w' := by
  have hl1 := hl.1
  have HL := Lib.hid hl
  have HP := Lib.hid hp
  clear hl hp
  go_enter Tryz.func59, Tryz.ntmps59
  go_wp2
  go_loopg [8] xs.length (fun gg i wr => ∃ k : Nat, k ≤ xs.length ∧ xs.length - k ≤ gg ∧ i = .int .i64 k ∧ Aside (findIdx p 0 xs = findIdx p k (xs.drop k)) ∧ Aside (Below w.heap.size w wr))
  case atStart => exact ⟨0, Nat.zero_le _, by omega, rfl, rfl, Below.refl _ _⟩
  case round =>
    obtain ⟨k, hk, hg, rfl, HT, HB⟩ := hrel
    by_cases hlt : k < xs.length
    · obtain ⟨b, o, ha, hb, d0, d1, d2, d3, d4⟩ := HL.out.at HB.out k hlt
      have hs := findIdx_drop p xs k hlt
      have hmem := List.getElem_mem hlt
      generalize xs[k] = x at d0 d1 d2 d3 d4 hs hmem
      have HS := Lib.hid hs
      have hcall := HP.out wr x HB.out hmem
      clear hs hmem
      have hl2 : (k : Int) < (xs.length : Int) := by omega
      subst ha
      cases hq : p x with
      | true =>
        rw [hq] at HS
        rw [hq] at hcall
        clear hq
        go_wp2_with (go_at_fn g; refine hcall.mono ?_; rintro e w' ⟨rfl, hb'⟩)
        go_ret
        exact ⟨ret_int (by rw [HT, HS.out, if_pos trivial]), HB.out.trans (hb'.mono HB.out.size)⟩
      | false =>
        rw [hq] at HS
        rw [hq] at hcall
        clear hq
        go_wp2_with (go_at_fn g; refine hcall.mono ?_; rintro e w' ⟨rfl, hb'⟩)
        go_roundg (xs.length - (k + 1))
        case measure => omega
        case rel => exact ⟨k + 1, by omega, by omega, by go_num, (by show _ = _; rw [HT, HS.out]; simp), HB.out.trans (hb'.mono HB.out.size)⟩
    · have he : k = xs.length := by omega
      have hn : ¬ (k : Int) < (xs.length : Int) := by omega
      have hz : findIdx p 0 xs = -1 := by rw [HT, he, List.drop_length]; rfl
      have HZ := Lib.hid hz
      clear hz he HT
      go_wp2
      go_ret
      exact ⟨ret_int HZ.out.symm, HB.out⟩
set_option maxRecDepth 100000 in
theorem c_containsTest (a : Option Addr) (c : Nat) (xs : List Test) (g : Nat) (lb : Array Value) (eg : ∀ args w, (callFunc g args).run Tryz.prog w = .ok (.enter g args) w) (p : Test → Bool) (w : World) (hl : TestsAt w a xs)
    (hp : ∀ (W : World) (x : Test), Below w.heap.size w W → x ∈ xs → Calls Tryz.prog g (#[x.v] ++ lb) W (HoldsPost W (p x))) :
    Calls Tryz.prog 34 #[.slice a xs.length c, .func (.func g) #[] lb] w (HoldsPost w (xs.any p)) := by
  have hcall := c_indexTest a c xs g lb eg p w hl hp
  have hany := findIdx_any p 0 xs
  clear hl hp
  generalize findIdx p 0 xs = n at hcall hany
  have HANY := Lib.hid hany
  clear hany
  go_enter Tryz.func34, Tryz.ntmps34
  go_wp2_with (go_at_call 59; refine hcall.mono ?_; rintro e w' ⟨rfl, hb'⟩)
  all_goals
    go_ret
    exact ⟨ret_bool HANY.out, hb'⟩
end Go.Proofs.YtnbfenapnfbmeaaGreat
