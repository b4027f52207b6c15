/- Contracts: copies of lists of rules (the reference). -/
import Derived.Test.YtnbfenapnfbmeaaGreatC7
set_option linter.unusedSimpArgs false
set_option linter.unusedVariables false
namespace Go.Proofs.YtnbfenapnfbmeaaGreat
open Go.RowKit
/-- What a copy of a list is. -/
def CopiesPost (w : World) (rs : List Rule) (e : Ending) (w' : World) : Prop := ∃ (v : Value) (rs' : List Rule), e = .returned v ∧ RulesOwn w' w.heap.size v rs' ∧ rs'.map Rule.p = rs.map Rule.p ∧ Below w.heap.size w w'
theorem RulesOwn.snoc {w w1 w2 : World} {B g cap : Nat} {v : Value} {rs : List Rule} {r : Rule} (h : RulesOwn w B v rs) (hr : RuleAt w1 r) (hw : Below w.heap.size w w1) (hl : rs.length < 1000000)
    (hown : w2.ownsRow B tRule 8 (.slice (some ⟨g, 0, none⟩) (rs.length + 1) cap) (rs.length + 1) (rs.flatMap Rule.cells ++ r.cells)) (hk : Keeps tTest w1 w2) : RulesOwn w2 B (.slice (some ⟨g, 0, none⟩) (rs.length + 1) cap) (rs ++ [r]) := by
  refine ⟨by simp; omega, ?_, fun x hx => ?_⟩
  · unfold OwnRow
    rw [List.flatMap_append, List.length_append]
    simpa using hown
  · rcases List.mem_append.1 hx with h1 | h1
    · exact ((h.2.2 x h1).below hw (Nat.le_refl _)).keep hk
    · rw [List.mem_singleton.1 h1]
      exact hr.keep hk
/-- An append to a row of rules of the call's own leaves rows of tests as they were. -/
theorem Keeps.own {w w' : World} {B n : Nat} {v : Value} {xs : List Value} (h : w.ownsRow B tRule 8 v n xs) (hg : w.grownBy w' v.ownBlock) : Keeps tTest w w' := by
  rcases h.2 with ⟨rfl, hn⟩ | ⟨g, cap, cur, rfl, hb, hgg, rest⟩
  · exact Keeps.grown_none hg
  · exact Keeps.grown (E' := tRule) hg hgg (by decide)
theorem below_own {w0 w w' : World} {B n : Nat} {v : Value} {xs : List Value} (h : w.ownsRow B tRule 8 v n xs) (hg : w.grownBy w' v.ownBlock) (hb : Below B w0 w) (hB : B ≤ w.heap.size) : Below B w0 w' :=
  hb.grown hg hB (fun k hk => (h.lt k hk).1)
theorem news_new (w : World) (cs : List Value) (t : TypeId) : ∀ (j : Nat) u, cs[j]? = some u → (w.alloc (.cells cs.toArray t)).cell? ((⟨w.heap.size, 0, none⟩ : Addr).add j) = some u := by
  intro j u h
  rw [Addr.add_lit, Nat.zero_add, World.cell?_alloc_at _ _ _ _ rfl]
  simpa using h
set_option maxRecDepth 100000 in
set_option maxHeartbeats 1000000 in
theorem c_copy (a : Option Addr) (c : Nat) (rs : List Rule) (w : World) (hl : RulesAt w a rs) :
    Calls Tryz.prog 51 #[.slice a rs.length c] w (CopiesPost w rs) := by
  have hl1 := hl.1
  have HL := Lib.hid hl
  clear hl
  obtain ⟨i0, hi, hz0, hz1, hz2⟩ := info_parts info_rule
  have HI := Lib.hid hi
  clear hi
  go_enter Tryz.func51, Tryz.ntmps51
  go_wp2
  go_loopg [3, 4] rs.length (fun gg v i wr => ∃ (k : Nat) (rs' : List Rule), k ≤ rs.length ∧ rs.length - k ≤ gg ∧ i = .int .i64 k ∧ Aside (RulesOwn wr w.heap.size v rs') ∧ Aside (rs'.map Rule.p = (rs.take k).map Rule.p) ∧ Aside (Below w.heap.size w wr))
  case atStart => exact ⟨0, [], Nat.zero_le _, by omega, rfl, ⟨by simp, World.ownsRow_nil _ _ _ _, by simp⟩, rfl, Below.refl _ _⟩
  case round =>
    obtain ⟨k, rs', hk, hg, rfl, HO, HP, HB⟩ := hrel
    by_cases hlt : k < rs.length
    · obtain ⟨b, o, ha, hb, hat, d0, d1, d2, d3, d4, d5, d6, d7⟩ := HL.out.at HB.out k hlt
      have hs : (rs.take (k + 1)).map Rule.p = (rs.take k).map Rule.p ++ [rs[k].p] := by rw [List.take_succ_eq_append_getElem hlt, List.map_append]; rfl
      generalize rs[k] = x at hat d0 d1 d2 d3 d4 d5 d6 d7 hs
      have HS := Lib.hid hs
      have HAT := Lib.hid hat
      clear hs hat
      have hl2 : (k : Int) < (rs.length : Int) := by omega
      have hrl : rs'.length = k := by have := congrArg List.length HP; simp at this; omega
      have HRL := Lib.hid hrl
      have hrl2 : rs'.length ≤ 999999 := by omega
      clear hrl
      subst ha
      have hcall := c_copyRule x wr (HAT.out.below HB.out (Nat.le_refl _))
      go_wp2_with (first
        | (go_at_call 50; refine hcall.mono ?_; rintro e w' ⟨r', rfl, hp', hr', hb'⟩)
        | (at_builtin; refine wpList_append_lies (w := w'.alloc (ruleBox r')) rfl _ _ 25 rfl w.heap.size tRule i0 _ 8 96 Tryz.underlying25 HI.out hz0 hz1 hz2 rfl (by decide) u3 rs'.length (rs'.flatMap Rule.cells) rfl ((HO.2.1.below hb' (Nat.le_refl _)).alloc _) ⟨w'.heap.size, 0, none⟩ 1 1 r'.cells rfl rfl (news_new _ _ _) (one_rule r') (by decide) (by unfold maxLen; omega) (by omega) (by simp; exact Nat.le_trans HB.out.size (Nat.le_trans hb'.size (Nat.le_succ _))) _ rfl ?_; intro g cap w2 hown2 hg2 hgb hlt2))
      have hlen2 : rs'.length < 1000000 := by omega
      have hO1 := (HO.2.1.below hb' (Nat.le_refl _)).alloc (ruleBox r')
      have hB1 : Below w.heap.size w (w'.alloc (ruleBox r')) := (HB.out.trans (hb'.mono HB.out.size)).alloc (Nat.le_trans HB.out.size hb'.size) _
      go_roundg (rs.length - (k + 1))
      case measure => omega
      case rel =>
        refine ⟨k + 1, rs' ++ [r'], by omega, by omega, by go_num, ?_, ?_, ?_⟩
        · have := RulesOwn.snoc (w1 := w'.alloc (ruleBox r')) HO (hr'.keep (Keeps.below (Below.alloc (Below.refl _ _) (Nat.le_refl _) _) (Nat.le_refl _))) ((hb').alloc hb'.size _) hlen2 hown2 (Keeps.own hO1 hg2)
          exact this
        · show _ = _
          rw [List.map_append, HS.out, show rs'.map Rule.p = (rs.take k).map Rule.p from HP]
          simp [hp']
        · exact below_own hO1 hg2 hB1 (by simp; exact Nat.le_trans HB.out.size (Nat.le_trans hb'.size (Nat.le_succ _)))
    · have he : k = rs.length := by omega
      have hn : ¬ (k : Int) < (rs.length : Int) := by omega
      have HP2 : Hid (rs'.map Rule.p = rs.map Rule.p) := Lib.hid (by have hp := HP; rw [show rs'.map Rule.p = (rs.take k).map Rule.p from hp, he, List.take_length])
      clear he HP
      go_wp2
      go_ret
      exact ⟨_, rs', rfl, HO, HP2.out, HB⟩
end Go.Proofs.YtnbfenapnfbmeaaGreat
