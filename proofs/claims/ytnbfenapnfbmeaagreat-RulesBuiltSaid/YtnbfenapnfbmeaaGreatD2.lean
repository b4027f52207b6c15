/- Contracts: copies in new memory (package own): lists of rules. -/
import Derived.Test.YtnbfenapnfbmeaaGreatD1
import Derived.Laws.OwnMore
import Derived.Laws.MakeOwn
import Derived.Shelf.Abstract
set_option linter.unusedSimpArgs false
set_option linter.unusedVariables false
namespace Go.Proofs.YtnbfenapnfbmeaaGreat
open Go.RowKit
/-- What own.Rules makes: a full row, or nil. -/
def FullPost (w : World) (rs : List Rule) (e : Ending) (w' : World) : Prop := ∃ (a : Option Addr) (rs' : List Rule), e = .returned (.slice a rs'.length rs'.length) ∧ (a = none → rs' = []) ∧ RulesOwn w' w.heap.size (.slice a rs'.length rs'.length) rs' ∧ rs'.map Rule.p = rs.map Rule.p ∧ Below w.heap.size w w'
theorem enters_ownRule : ∀ args w, (callFunc 48 args).run Tryz.prog w = .ok (.enter 48 args) w := enters_of Tryz.func48 (by kernel_rfl) rfl
theorem own_below {w w' : World} {B B' n sz : Nat} {E : TypeId} {v : Value} {xs : List Value} (h : w.ownsRow B E sz v n xs) (hb : Below B' w w') (hB : w.heap.size ≤ B') : w'.ownsRow B E sz v n xs :=
  World.ownsRow.kept (row := none) h ⟨hb.os, hb.tape, hb.output, hb.size, fun k hk _ => hb.block k (Nat.lt_of_lt_of_le hk hB)⟩ (by cases hv : v.ownBlock <;> simp)
theorem own_cell {w : World} {B n cap sz g : Nat} {E : TypeId} {xs : List Value} (h : w.ownsRow B E sz (.slice (some ⟨g, 0, none⟩) n cap) n xs) (j : Nat) (hj : j < n * sz) : ∃ u, w.cell? ⟨g, j, none⟩ = some u := by
  have hl : j < xs.length := by rw [h.1]; exact hj
  exact ⟨xs[j], by rw [h.cellAt j hj, List.getElem?_eq_getElem hl]⟩
/-- The cells of a rule are stored into a row from p on. -/
def put8 (xs : List Value) (p : Nat) (r : Rule) : List Value := (((((((xs.set p (.int .i64 r.list)).set (p + 1) (.int .i64 r.action)).set (p + 2) (.int .u64 r.calls)).set (p + 3) (.slice r.ta r.tests.length r.tc)).set (p + 4) (.int .i64 r.watch)).set (p + 5) (.string r.path)).set (p + 6) (.int .i64 r.perm)).set (p + 7) (.string r.key)
def setR (w : World) (g p : Nat) (r : Rule) : World := (((((((w.setCell ⟨g, p, none⟩ (.int .i64 r.list)).setCell ⟨g, p + 1, none⟩ (.int .i64 r.action)).setCell ⟨g, p + 2, none⟩ (.int .u64 r.calls)).setCell ⟨g, p + 3, none⟩ (.slice r.ta r.tests.length r.tc)).setCell ⟨g, p + 4, none⟩ (.int .i64 r.watch)).setCell ⟨g, p + 5, none⟩ (.string r.path)).setCell ⟨g, p + 6, none⟩ (.int .i64 r.perm)).setCell ⟨g, p + 7, none⟩ (.string r.key)
theorem own_put8 {w : World} {B n cap sz g : Nat} {E : TypeId} {xs : List Value} (h : w.ownsRow B E sz (.slice (some ⟨g, 0, none⟩) n cap) n xs) (p : Nat) (r : Rule) :
    (setR w g p r).ownsRow B E sz (.slice (some ⟨g, 0, none⟩) n cap) n (put8 xs p r) :=
  (((((((h.stored p _).1.stored (p + 1) _).1.stored (p + 2) _).1.stored (p + 3) _).1.stored (p + 4) _).1.stored (p + 5) _).1.stored (p + 6) _).1.stored (p + 7) _ |>.1
theorem put8_at (xs : List Value) (p : Nat) (r : Rule) (hp : p + 8 ≤ xs.length) (i : Nat) (v : Value) (h : r.cells[i]? = some v) : (put8 xs p r)[p + i]? = some v := by
  have hi : i < 8 := by
    have := (List.getElem?_eq_some_iff.1 h).1
    simpa using this
  unfold put8
  simp only [List.getElem?_set, List.length_set]
  match i, hi, h with
  | 0, _, h => simp at h; subst h; simp; omega
  | 1, _, h => simp at h; subst h; simp; omega
  | 2, _, h => simp at h; subst h; simp; omega
  | 3, _, h => simp at h; subst h; simp; omega
  | 4, _, h => simp at h; subst h; simp; omega
  | 5, _, h => simp at h; subst h; simp; omega
  | 6, _, h => simp at h; subst h; simp; omega
  | 7, _, h => simp at h; subst h; simp; omega
theorem put8_other (xs : List Value) (p : Nat) (r : Rule) (j : Nat) (h : j < p ∨ p + 8 ≤ j) : (put8 xs p r)[j]? = xs[j]? := by
  unfold put8
  simp only [List.getElem?_set]
  repeat rw [if_neg (by omega)]
theorem setR_heap (w : World) (g p : Nat) (r : Rule) (k : Nat) (h : k ≠ g) : (setR w g p r).heap[k]? = w.heap[k]? := by
  unfold setR
  repeat rw [heap_setCell' _ _ _ _ k h]
theorem setR_below {B g p : Nat} {w0 w : World} (r : Rule) (h : Below B w0 w) (hB : B ≤ g) : Below B w0 (setR w g p r) := by
  unfold setR
  exact Below.setCell (Below.setCell (Below.setCell (Below.setCell (Below.setCell (Below.setCell (Below.setCell (Below.setCell h hB _) hB _) hB _) hB _) hB _) hB _) hB _) hB _
theorem setR_keeps {w : World} {g p : Nat} {r : Rule} {cs : Array Value} (hg : w.heap[g]? = some (.cells cs tRule)) : Keeps tTest w (setR w g p r) := fun b cs' fz hb => by
  refine (setR_heap w g p r b ?_).trans hb
  intro e
  rw [e, hg] at hb
  cases hb
theorem own_block {w : World} {B n cap sz g : Nat} {E : TypeId} {xs : List Value} (h : w.ownsRow B E sz (.slice (some ⟨g, 0, none⟩) n cap) n xs) : ∃ cs, w.heap[g]? = some (.cells cs E) := by
  rcases h.2 with ⟨h', _⟩ | ⟨g', cap', cur, h', _, hg, _⟩
  · cases h'
  · cases h'
    exact ⟨cur, hg⟩
/-- A row all of whose elements are known. -/
theorem own_full {w : World} {B n cap sz g : Nat} {E : TypeId} {xs : List Value} {α : Type} (enc : α → List Value) (henc : ∀ x, (enc x).length = sz) (hsz : 0 < sz) (rs : List α) (h : w.ownsRow B E sz (.slice (some ⟨g, 0, none⟩) n cap) n xs) (hl : rs.length = n)
    (hx : ∀ j (h : j < rs.length) i v, (enc rs[j])[i]? = some v → xs[j * sz + i]? = some v) : xs = rs.flatMap enc := by
  have hxl := h.1
  apply List.ext_getElem?
  intro m
  rcases Nat.lt_or_ge m (n * sz) with hm | hm
  · have hq : m / sz < rs.length := by rw [hl]; exact (Nat.div_lt_iff_lt_mul hsz).2 hm
    have hr : m % sz < sz := Nat.mod_lt _ hsz
    have e : m / sz * sz + m % sz = m := by rw [Nat.mul_comm]; exact Nat.div_add_mod m sz
    have h1 := flatMap_at enc sz henc rs (m / sz) hq (m % sz) hr
    have h2 : (enc rs[m / sz])[m % sz]? = some ((enc rs[m / sz])[m % sz]'(by rw [henc]; exact hr)) := List.getElem?_eq_getElem _
    have h3 := hx (m / sz) hq (m % sz) _ h2
    rw [e] at h1 h3
    rw [h1, h3, h2]
  · rw [List.getElem?_eq_none (by omega), List.getElem?_eq_none (by rw [flatMap_len enc sz henc, hl]; exact hm)]
set_option maxRecDepth 100000 in
set_option maxHeartbeats 2000000 in
theorem c_each (a : Option Addr) (c : Nat) (rs : List Rule) (w : World) (hl : RulesAt w a rs) :
    Calls Tryz.prog 74 #[.slice a rs.length c, .func (.func 48) #[] #[]] w (FullPost w rs) := by
  have hl1 := hl.1
  have HL := Lib.hid hl
  clear hl
  obtain ⟨i0, hi, hz0, hz1, hz2⟩ := info_parts info_rule
  have HI := Lib.hid hi
  clear hi
  rcases (by omega : rs.length = 0 ∨ 0 < rs.length) with h0 | h0
  · have he : rs = [] := List.length_eq_zero_iff.1 h0
    subst he
    clear h0 hl1
    go_enter Tryz.func74, Tryz.ntmps74
    go_wp2
    go_ret
    exact ⟨none, [], rfl, fun _ => rfl, RulesOwn.nil _ _, rfl, Below.refl _ _⟩
  · have hq : ((rs.length : Int) == 0) = false := by simp; intro h; rw [h] at h0; simp at h0
    obtain ⟨w1, hmk, hown0, hgrow0⟩ := run_make_full (P := Tryz.prog) w w.heap.size 25 tRule i0 _ 8 Tryz.underlying25 HI.out hz0 hz1 .i64 .i64 rs.length (by rw [hz2]; omega) (by unfold maxLen; omega) (Nat.le_refl _)
    have HB1 : Hid (Below w.heap.size w w1) := Lib.hid ((Below.refl _ w).grown hgrow0 (Nat.le_refl _) (fun k hk => by cases hk))
    have HO1 := Lib.hid hown0
    clear hown0 hgrow0
    have eg := enters_ownRule
    go_enter Tryz.func74, Tryz.ntmps74
    go_wp2
    clear hmk hq
    go_loopg [16] rs.length (fun gg i wr => ∃ (k : Nat) (rs' : List Rule) (xs : List Value), k ≤ rs.length ∧ rs.length - k ≤ gg ∧ i = .int .i64 k ∧ Aside (wr.ownsRow w.heap.size tRule 8 (.slice (some ⟨w.heap.size, 0, none⟩) rs.length rs.length) rs.length xs) ∧
      Aside (∀ j (h : j < rs'.length) i v, (rs'[j]).cells[i]? = some v → xs[j * 8 + i]? = some v) ∧ Aside (∀ r ∈ rs', RuleAt wr r) ∧ Aside (rs'.map Rule.p = (rs.take k).map Rule.p) ∧ Aside (Below w.heap.size w wr))
    case atStart => exact ⟨0, [], _, Nat.zero_le _, by omega, rfl, HO1.out, (fun j h => by simp at h), (fun r h => by simp at h), rfl, HB1.out⟩
    case round =>
      obtain ⟨k, rs', xs, hk, hg, rfl, HO, HX, HRR, HP, HB⟩ := hrel
      by_cases hlt : k < rs.length
      · obtain ⟨b, o, ha, hb, hat, d0, d1, d2, d3, d4, d5, d6, d7⟩ := HL.out.at HB.out k hlt
        have hs : (rs.take (k + 1)).map Rule.p = (rs.take k).map Rule.p ++ [rs[k].p] := by rw [List.take_succ_eq_append_getElem hlt, List.map_append]; rfl
        generalize rs[k] = x at hat d0 d1 d2 d3 d4 d5 d6 d7 hs
        have HS := Lib.hid hs
        have HAT := Lib.hid hat
        clear hs hat
        have hl2 : (k : Int) < (rs.length : Int) := by omega
        subst ha
        have hcall := c_ownRule x (wr.alloc (ruleBox x)) (HAT.out.below (Below.alloc HB.out HB.out.size _) (Nat.le_refl _))
        have hrl : rs'.length = k := by have hp := HP; have := congrArg List.length (show rs'.map Rule.p = (rs.take k).map Rule.p from hp); simp at this; omega
        have HRL := Lib.hid hrl
        clear hrl
        go_wp2_with (go_at_call 48; refine hcall.mono ?_; rintro e w2 ⟨r', rfl, hp', hr', hb'⟩; have ho2 := own_below (HO.alloc (ruleBox x)) hb' (Nat.le_refl _); obtain ⟨u0, k0⟩ := own_cell ho2 (k * 8) (by omega); obtain ⟨u1, k1⟩ := own_cell ho2 (k * 8 + 1) (by omega); obtain ⟨u2, k2⟩ := own_cell ho2 (k * 8 + 2) (by omega); obtain ⟨u3, k3⟩ := own_cell ho2 (k * 8 + 3) (by omega); obtain ⟨u4, k4⟩ := own_cell ho2 (k * 8 + 4) (by omega); obtain ⟨u5, k5⟩ := own_cell ho2 (k * 8 + 5) (by omega); obtain ⟨u6, k6⟩ := own_cell ho2 (k * 8 + 6) (by omega); obtain ⟨u7, k7⟩ := own_cell ho2 (k * 8 + 7) (by omega); have hfz := ho2.frozenAt; have HO2 := Lib.hid ho2; have HB2 := Lib.hid hb'; have HR2 := Lib.hid hr'; have HP2 := Lib.hid hp'; clear ho2 hb' hr' hp' hcall)
        obtain ⟨cs2, hcs⟩ := own_block HO2.out
        have hk3 : Keeps tTest w2 (setR w2 w.heap.size (k * 8) r') := setR_keeps hcs
        have hxl : xs.length = rs.length * 8 := HO2.out.1
        have HBW : Hid (Below w.heap.size w w2) := Lib.hid ((Below.alloc HB.out HB.out.size _).trans (HB2.out.mono (by simp; have := HB.out.size; omega)))
        go_roundg (rs.length - (k + 1))
        case measure => omega
        case rel =>
          refine ⟨k + 1, rs' ++ [r'], put8 xs (k * 8) r', by omega, by omega, by go_num, own_put8 HO2.out (k * 8) r', ?_, ?_, ?_, ?_⟩
          · intro j hj i v hv
            have hjl : j < rs'.length + 1 := by simpa using hj
            rcases (by omega : j < rs'.length ∨ j = rs'.length) with h | h
            · rw [List.getElem_append_left h] at hv
              have hi : i < 8 := by have := (List.getElem?_eq_some_iff.1 hv).1; simpa using this
              rw [put8_other _ _ _ _ (by have := HRL.out; omega)]
              exact HX j h i v hv
            · subst h
              have hv' : r'.cells[i]? = some v := by simpa using hv
              have := put8_at xs (k * 8) r' (by omega) i v hv'
              rwa [← HRL.out] at this ⊢
          · intro y hy
            rcases List.mem_append.1 hy with h | h
            · exact ((((show ∀ r ∈ rs', RuleAt wr r from HRR) y h).below (Below.alloc (Below.refl _ _) (Nat.le_refl _) _) (Nat.le_refl _)).below HB2.out (Nat.le_refl _)).keep hk3
            · rw [List.mem_singleton.1 h]
              exact HR2.out.keep hk3
          · show _ = _
            rw [List.map_append, HS.out, show rs'.map Rule.p = (rs.take k).map Rule.p from HP]
            simp [HP2.out]
          · exact setR_below r' HBW.out (Nat.le_refl _)
      · have he : k = rs.length := by omega
        have hn : ¬ (k : Int) < (rs.length : Int) := by omega
        have hrl : rs'.length = rs.length := by have hp := HP; have := congrArg List.length (show rs'.map Rule.p = (rs.take k).map Rule.p from hp); simp at this; omega
        have HP2 : Hid (rs'.map Rule.p = rs.map Rule.p) := Lib.hid (by have hp := HP; rw [show rs'.map Rule.p = (rs.take k).map Rule.p from hp, he, List.take_length])
        have hown : RulesOwn wr w.heap.size (.slice (some ⟨w.heap.size, 0, none⟩) rs'.length rs'.length) rs' := by
          have h1 := own_full Rule.cells (fun _ => rfl) (by decide) rs' (show wr.ownsRow _ _ _ _ _ xs from HO) hrl HX
          refine ⟨by omega, ?_, HRR⟩
          unfold OwnRow
          rw [hrl, ← h1]
          exact HO
        have HOF := Lib.hid hown
        have HRL := Lib.hid hrl
        clear he HP hrl hown HO HX HRR
        go_wp2
        go_ret
        exact ⟨some ⟨w.heap.size, 0, none⟩, rs', by rw [HRL.out]; rfl, (fun h => nomatch h), HOF.out, HP2.out, HB⟩
set_option maxHeartbeats 400000 in
theorem c_ownRules (a : Option Addr) (c : Nat) (rs : List Rule) (w : World) (hl : RulesAt w a rs) :
    Calls Tryz.prog 47 #[.slice a rs.length c] w (FullPost w rs) := by
  have hcall := c_each a c rs w hl
  clear hl
  go_enter Tryz.func47, Tryz.ntmps47
  go_wp2_with (go_at_call 74; refine hcall.mono ?_; rintro e w' ⟨a', rs', rfl, h1, h2, h3, h4⟩)
  go_ret
  exact ⟨a', rs', rfl, h1, h2, h3, h4⟩
end Go.Proofs.YtnbfenapnfbmeaaGreat
