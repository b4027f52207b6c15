/- Laws: copies of elements of several cells; contracts of slices.Insert. -/
import Derived.Test.YtnbfenapnfbmeaaGreatE6
import Derived.Test.YtnbfenapnfbmeaaGreatC9
import Derived.Lib.AppendZerosOnto
import Derived.Laws.CopyRow
import Derived.Laws.CopyOwn
import Derived.Deep.RegionLaw
set_option linter.unusedSimpArgs false
set_option linter.unusedVariables false
namespace Go.Proofs.YtnbfenapnfbmeaaGreat
open Go.RowKit
section
variable {P : Program}
theorem run_copy_rowN (w : World) (dT sT ty elem : TypeId) (g o dLen dCap : Nat) (a : Addr) (sLen sCap n sz : Nat) (cur : Array Value) (t : TypeId) (cs : List Value)
    (hu : P.underlying dT = some (.slice elem)) (hs : (P.info? elem).map (·.size) = some sz) (hm : Nat.min sLen dLen = n)
    (hg : w.heap[g]? = some (.cells cur t (0, 0))) (hn : cs.length = n * sz)
    (hsrc : ∀ j v, cs[j]? = some v → w.cell? (a.add j) = some v) (hfit : o + cs.length ≤ cur.size) (h1 : ∀ v ∈ cs, v.oneCell' = true) :
    (Builtin.copy_ #[dT, sT] ty #[.slice (some ⟨g, o, none⟩) dLen dCap, .slice (some a) sLen sCap]).run P w =
      .ok (goInt n) (w.setRow g (cur.toList.take o ++ cs ++ cur.toList.drop (o + cs.length)).toArray) := by
  have hl := run_loadCells_list (P := P) w a cs hsrc
  have hst := run_storeCells_at P g o t cs 0 cur w hg (by simpa using hfit) h1
  cases hq : P.info? elem with
  | none => simp [hq] at hs
  | some i =>
    have hi : i.size = sz := by simpa [hq] using hs
    rw [hn] at hl
    simp [Builtin.copy_, run_underlying hu, Builtin.lenOf, Builtin.firstCells, sizeOf, typeInfo, hq, hi, hm, hl, hst]
theorem wp_copy_run (w : World) {o : Oper} {a : Act} {K : Act → World → Prop} {Q : Exit → Act → World → Prop} (d s : Operand) (t t' : TypeId)
    (ho : o.op = .call { callee := .builtin .copy, args := #[d, s], argTypes := #[t, t'] }) (v u : Value) (hd : a.eval d = v) (hs : a.eval s = u) {v' : Value} {w' : World}
    (hr : (Builtin.copy_ #[t, t'] o.type #[v, u]).run P w = .ok v' w') (h : K (a.put o.dst v') w') : o.wp P a w K Q := by
  unfold Oper.wp execOp
  simp only [ho, resolve, invoke, builtin, Sem.run_bind, Sem.run_pure, Result.andThen_ok, List.map_toArray, List.map_cons, List.map_nil, hd, hs, hr]
  exact h
theorem wpList_copy_run (w : World) {ops : Array Oper} {rest : List Oper} {o : Oper} {a : Act} {Q : Exit → Act → World → Prop} (hgd : o.guard = none) (d s : Operand) (t t' : TypeId)
    (ho : o.op = .call { callee := .builtin .copy, args := #[d, s], argTypes := #[t, t'] }) (v u : Value) (hd : a.eval d = v) (hs : a.eval s = u) {v' : Value} {w' : World}
    (hr : (Builtin.copy_ #[t, t'] o.type #[v, u]).run P w = .ok v' w') (h : wpList P ops Q rest (a.put o.dst v') w') : wpList P ops Q (o :: rest) a w :=
  wpList_plain hgd fun _ hK => wp_copy_run w d s t t' ho v u hd hs hr (hK _ _ h)
theorem step_copy_run {ops : Array Oper} {o : Oper} {a : Act} {w : World} {K : Act → World → Prop} {Q : Exit → Act → World → Prop} {E : Prop}
    (hg : o.guard = none) (d x : Operand) (dT sT : TypeId) (hop : o.op = Op.call { callee := Callee.builtin Builtin.copy, args := #[d, x], argTypes := #[dT, sT] })
    (v u : Value) (hd : a.eval d = v) (hx : a.eval x = u) {v' : Value} {w' : World} (hr : (Builtin.copy_ #[dT, sT] o.type #[v, u]).run P w = .ok v' w') (hK : K (a.put o.dst v') w') :
    if Region.wanted o (yielded ops a.tmps) = true then Oper.wp P o a w K Q else E := by
  have hw : Region.wanted o (yielded ops a.tmps) = true := by simp [Region.wanted, hg]
  rw [if_pos hw]
  exact wp_copy_run w d x dT sT hop v u hd hx hr hK
end
/-- What Insert returns. -/
def InsPost (w : World) (B : Nat) (rs : List Rule) (e : Ending) (w' : World) : Prop := ∃ (a : Option Addr) (c : Nat), e = .returned (.slice a rs.length c) ∧ RulesOwn w' B (.slice a rs.length c) rs ∧ Below B w w'
theorem below_self {w w' : World} {B n : Nat} {v : Value} {xs : List Value} (h : w.ownsRow B tRule 8 v n xs) (hg : w.grownBy w' v.ownBlock) (hB : B ≤ w.heap.size) : Below B w w' :=
  (Below.refl B w).grown hg hB (fun k hk => (h.lt k hk).1)
theorem box_news {w : World} {b : Nat} {r : Rule} (h : w.heap[b]? = some (ruleBox r)) : ∀ (j : Nat) u, r.cells[j]? = some u → w.cell? ((⟨b, 0, none⟩ : Addr).add j) = some u := by
  intro j u hu
  rw [Addr.add_lit, Nat.zero_add, World.cell?]
  simp only [h]
  simpa using hu
set_option maxRecDepth 100000 in
set_option maxHeartbeats 1000000 in
theorem c_insert_back (B : Nat) (a : Option Addr) (rs : List Rule) (vb : Nat) (r : Rule) (w : World) (hB : B ≤ w.heap.size) (hl : rs.length ≤ 1000) (h : RulesOwn w B (.slice a rs.length rs.length) rs) (hr : RuleAt w r) (hv : w.heap[vb]? = some (ruleBox r)) :
    Calls Tryz.prog 46 #[.slice a rs.length rs.length, .int .i64 rs.length, .slice (some ⟨vb, 0, none⟩) 1 1] w (InsPost w B (rs ++ [r])) := by
  obtain ⟨i0, hi, hz0, hz1, hz2⟩ := info_parts info_rule
  have HI := Lib.hid hi
  clear hi
  have H := Lib.hid h
  have HV := Lib.hid hv
  have hno : a = none → rs.length = 0 := by
    rintro rfl
    rcases h.2.1.2 with ⟨_, hn⟩ | ⟨g, cap, cur, he, _⟩
    · exact hn
    · cases he
  clear h hv
  go_enter Tryz.func46, Tryz.ntmps46
  cases a
  case none =>
    have h0 := hno rfl
    have h00 : rs = [] := List.length_eq_zero_iff.1 h0
    subst h00
    go_wp2_with (at_builtin; refine wpList_append_lies (w := w) rfl _ _ 25 rfl B tRule i0 _ 8 96 Tryz.underlying25 HI.out hz0 hz1 hz2 rfl (by decide) (.slice none 0 0) 0 [] rfl H.out.2.1 ⟨vb, 0, none⟩ 1 1 r.cells rfl rfl (box_news HV.out) (one_rule r) (by decide) (by unfold maxLen; omega) (by omega) hB _ rfl ?_; intro g cap w2 hown2 hg2 hgb hlt2; have HO2 := Lib.hid hown2; have HG2 := Lib.hid hg2; clear hown2 hg2)
    go_ret
    exact ⟨_, cap, rfl, RulesOwn.snoc (w1 := w) H.out hr (Below.refl _ _) (by decide) HO2.out (Keeps.own H.out.2.1 HG2.out), below_self H.out.2.1 HG2.out hB⟩
  case some ad =>
    have hle : (rs.length : Int) ≤ (rs.length : Int) := Int.le_refl _
    go_wp2_with (at_builtin; refine wpList_append_lies (w := w) rfl _ _ 25 rfl B tRule i0 _ 8 96 Tryz.underlying25 HI.out hz0 hz1 hz2 rfl (by decide) (.slice (some ad) rs.length rs.length) rs.length (rs.flatMap Rule.cells) rfl H.out.2.1 ⟨vb, 0, none⟩ 1 1 r.cells rfl rfl (box_news HV.out) (one_rule r) (by decide) (by unfold maxLen; omega) (by omega) hB _ rfl ?_; intro g cap w2 hown2 hg2 hgb hlt2; have HO2 := Lib.hid hown2; have HG2 := Lib.hid hg2; clear hown2 hg2)
    go_ret
    have hll : (rs ++ [r]).length = rs.length + 1 := by simp
    have hsn := RulesOwn.snoc (w1 := w) H.out hr (Below.refl _ _) (by omega) HO2.out (Keeps.own H.out.2.1 HG2.out)
    unfold InsPost
    rw [hll]
    exact ⟨_, cap, rfl, hsn, below_self H.out.2.1 HG2.out hB⟩
set_option maxRecDepth 100000 in
set_option maxHeartbeats 1000000 in
theorem c_insert_front (B : Nat) (ad : Addr) (rs : List Rule) (vb : Nat) (r : Rule) (w : World) (hB : B ≤ w.heap.size) (hn : 0 < rs.length) (hl : rs.length ≤ 1000) (h : RulesOwn w B (.slice (some ad) rs.length rs.length) rs) (hr : RuleAt w r) (hv : w.heap[vb]? = some (ruleBox r)) :
    Calls Tryz.prog 46 #[.slice (some ad) rs.length rs.length, .int .i64 0, .slice (some ⟨vb, 0, none⟩) 1 1] w (InsPost w B (r :: rs)) := by
  obtain ⟨ab, rfl, hadb⟩ : ∃ g, ad = ⟨g, 0, none⟩ ∧ g < w.heap.size := by
    rcases h.2.1.2 with ⟨he, _⟩ | ⟨g, cap, cur, he, hb, hg, _⟩
    · cases he
    · cases he
      exact ⟨g, rfl, lt_of_some hg⟩
  obtain ⟨i0, hi, hz0, hz1, hz2⟩ := info_parts info_rule
  have hsz : (Tryz.prog.info? tRule).map (·.size) = some 8 := by rw [hi]; simp [hz1]
  have hold : (Builtin.firstCells i0.size 0 (.slice (some ⟨ab, 0, none⟩) 0 rs.length)).run Tryz.prog w.drew = .ok ([] : List Value).toArray w.drew := by
    rw [hz1]
    exact run_firstCells_some w.drew 8 0 ⟨ab, 0, none⟩ 0 rs.length [] (by simp) (fun j v hj => by simp at hj)
  have hrz := fun ty => Lib.run_append_grow_zeros w 25 3 ty tRule i0 _ .i64 .i64 Tryz.underlying25 Tryz.underlying3 hi hz0 (some ⟨ab, 0, none⟩) 0 rs.length [] hold (rs.length + 1) (by omega) (by omega) (by omega) (by omega) (by rw [hz2]; omega) (by rw [hz2]; exact growslice_fits (by omega) (by omega))
  have hGn : 0 + (rs.length + 1) ≤ grownCap w (0 + (rs.length + 1)) rs.length tRule := grownCap_ge w _ _ _
  have hGm : grownCap w (0 + (rs.length + 1)) rs.length tRule ≤ maxLen := grownCap_le_maxLen w _ _ _ (by unfold maxLen; omega)
  rw [Nat.zero_add] at hrz hGn hGm
  generalize grownCap w (rs.length + 1) rs.length tRule = G at hrz hGn hGm
  obtain ⟨ROW, hROW⟩ : ∃ ROW : Array Value, ROW = ([] : List Value).toArray ++ Builtin.zeroCells (Value.cells (.agg #[.int .i64 0, .int .i64 0, .int .u64 0, .slice none 0 0, .int .i64 0, .string ⟨#[]⟩, .int .i64 0, .string ⟨#[]⟩])) (rs.length + 1) ++ Builtin.zeroCells (Value.cells (.agg #[.int .i64 0, .int .i64 0, .int .u64 0, .slice none 0 0, .int .i64 0, .string ⟨#[]⟩, .int .i64 0, .string ⟨#[]⟩])) (G - (rs.length + 1)) := ⟨_, rfl⟩
  have hRs : ROW.size = G * 8 := by
    rw [hROW]
    simp [Builtin.zeroCells, Value.cells]
    omega
  rw [← hROW] at hrz
  have e1 : ((rs.length + 1 : Nat) : Int) = (rs.length : Int) + 1 := by omega
  simp only [e1] at hrz
  have HRZ := Lib.hid hrz
  clear hrz hROW hold
  have hlen : (rs.flatMap Rule.cells).length = rs.length * 8 := flatMap_len Rule.cells 8 (fun _ => rfl) rs
  obtain ⟨a2, c2, he2, _, hrow⟩ := h.2.1.shape (fun _ => rfl)
  cases he2
  have hnews := hrow.news (by decide) (fun _ => rfl)
  have hvl := lt_of_some hv
  have hone : ∀ u ∈ rs.flatMap Rule.cells, u.oneCell' = true := fun u hu => by
    obtain ⟨y, _, hy⟩ := List.mem_flatMap.1 hu
    exact one_rule y u hy
  -- the worlds behind the append and behind the first copy
  obtain ⟨W1, hW1⟩ : ∃ W1, W1 = w.drew.alloc (.cells ROW tRule) := ⟨_, rfl⟩
  have hc1 : ∀ (W : World), W.heap = W1.heap → ∀ ty, (Builtin.copy_ #[25, 25] ty #[.slice (some ⟨w.heap.size, 0, none⟩) (rs.length + 1) G, .slice (some ⟨vb, 0, none⟩) 1 1]).run Tryz.prog W = .ok (goInt 1) (W.setRow w.heap.size (ROW.toList.take 0 ++ r.cells ++ ROW.toList.drop (0 + r.cells.length)).toArray) := fun W hWh ty =>
    run_copy_rowN W _ _ ty tRule w.heap.size 0 (rs.length + 1) G ⟨vb, 0, none⟩ 1 1 1 8 ROW tRule r.cells Tryz.underlying25 hsz (by show min 1 (rs.length + 1) = 1; omega) (by rw [hWh, hW1]; exact heap_new w.drew _) rfl (fun j v hj => by
      have hh : W.heap[vb]? = some (ruleBox r) := by rw [hWh, hW1]; exact (Below.heap_alloc w.drew _ _ hvl).trans hv
      exact box_news hh j v hj) (by rw [hRs]; simp; omega) (one_rule r)
  obtain ⟨R1, hR1⟩ : ∃ R1 : Array Value, R1 = (ROW.toList.take 0 ++ r.cells ++ ROW.toList.drop (0 + r.cells.length)).toArray := ⟨_, rfl⟩
  rw [← hR1] at hc1
  have hR1s : R1.size = G * 8 := by
    rw [hR1]
    simp
    omega
  have hR1h : R1.toList.take 8 = r.cells := by
    rw [hR1]
    simp
  have hW2h : (W1.setRow w.heap.size R1).heap[w.heap.size]? = some (.cells R1 tRule) := setRow_heap _ _ ROW _ _ (0, 0) (by rw [hW1]; exact heap_new w.drew _)
  have hc2 : ∀ (W : World), W.heap = (W1.setRow w.heap.size R1).heap → ∀ ty cc, (Builtin.copy_ #[25, 25] ty #[.slice (some ⟨w.heap.size, 8, none⟩) rs.length cc, .slice (some ⟨ab, 0, none⟩) rs.length rs.length]).run Tryz.prog W = .ok (goInt rs.length) (W.setRow w.heap.size (R1.toList.take 8 ++ rs.flatMap Rule.cells ++ R1.toList.drop (8 + (rs.flatMap Rule.cells).length)).toArray) := fun W hWh ty cc =>
    run_copy_rowN W _ _ ty tRule w.heap.size 8 rs.length cc ⟨ab, 0, none⟩ rs.length rs.length rs.length 8 R1 tRule (rs.flatMap Rule.cells) Tryz.underlying25 hsz (by show min rs.length rs.length = rs.length; omega) (by rw [hWh]; exact hW2h) hlen (fun j v hj => by
      rw [Addr.add_lit, World.cell?_of_block (a := ⟨ab, 0 + j, none⟩) (w := w) (by
        show W.heap[ab]? = w.heap[ab]?
        rw [hWh, setRow_other _ _ _ _ (by omega), hW1]
        exact Below.heap_alloc w.drew _ _ hadb)]
      have hx := hnews j v hj
      rw [Addr.add_lit] at hx
      exact hx) (by rw [hR1s, hlen]; omega) hone
  have HR1 := Lib.hid hR1
  have HRS := Lib.hid (And.intro hR1s (And.intro hR1h hW2h))
  clear hR1
  have HW1 := Lib.hid hW1
  have hw1 : IntKind.i64.wrap 1 = 1 := by rfl
  have hG1 : ¬ G = 1 := by omega
  have hb3 : (1 : Int) ≤ (rs.length : Int) + 1 := by omega
  have HC1 := Lib.hid hc1
  have HC2 := Lib.hid hc2
  have HV := Lib.hid hv
  have HN := Lib.hid hnews
  have H := Lib.hid h
  clear hW1 hc1 hc2 hv hnews h hone hrow hW2h hR1s hR1h
  have hn1 : ¬ (0 : Int) = (rs.length : Int) := by omega
  have hn2 : (rs.length : Int) < (rs.length : Int) + 1 := by omega
  have hn3 : (0 : Int) ≤ (rs.length : Int) := by omega
  go_enter Tryz.func46, Tryz.ntmps46
  go_wp2_with (first
    | (at_builtin; refine Lib.wpList_append_run _ rfl _ _ _ _ rfl _ _ rfl rfl _ _ (HRZ.out _) ?_)
    | (refine wpList_copy_run _ rfl _ _ _ _ rfl _ _ rfl rfl (HC1.out _ (by (rw [HW1.out]) <;> rfl) _) ?_))
  go_region_law (refine step_copy_run (by rfl) _ _ _ _ (by rfl) (.slice (some ⟨w.heap.size, 8, none⟩) rs.length (G - 1)) (.slice (some ⟨ab, 0, none⟩) rs.length rs.length) (by simp [Act.eval, Act.put]) (by simp [Act.eval, Act.put]) (HC2.out _ (by (rw [HW1.out]) <;> rfl) _ _) ?_)
  go_wp2
  go_ret
  have hbel : Below w.heap.size w (((w.alloc (Obj.cells ROW tRule)).drew.setRow w.heap.size R1).drew.setRow w.heap.size (List.take 8 R1.toList ++ (List.flatMap Rule.cells rs ++ List.drop (8 + rs.length * 8) R1.toList)).toArray) :=
    below_setRow (pw_drew (below_setRow (pw_drew ((Below.refl _ w).alloc (Nat.le_refl _) _)) (Nat.le_refl _) _)) (Nat.le_refl _) _
  have hR1n : (((w.alloc (Obj.cells ROW tRule)).drew.setRow w.heap.size R1).drew).heap[w.heap.size]? = some (.cells R1 tRule) := by
    have := HRS.out.2.2
    rw [HW1.out] at this
    exact this
  have hst := setRow_heap _ w.heap.size R1 (List.take 8 R1.toList ++ (List.flatMap Rule.cells rs ++ List.drop (8 + rs.length * 8) R1.toList)).toArray tRule (0, 0) hR1n
  generalize ((w.alloc (Obj.cells ROW tRule)).drew.setRow w.heap.size R1).drew.setRow w.heap.size (List.take 8 R1.toList ++ (List.flatMap Rule.cells rs ++ List.drop (8 + rs.length * 8) R1.toList)).toArray = wf at hbel hst
  have h8 := HRS.out.2.1
  have h8s := HRS.out.1
  refine ⟨some ⟨w.heap.size, 0, none⟩, G, rfl, ⟨by simp; omega, ?_, ?_⟩, hbel.mono hB⟩
  · refine ⟨by simp [hlen]; omega, .inr ⟨w.heap.size, G, _, rfl, hB, hst, by simpa using hGn, hGm, ?_, ?_⟩⟩
    · rw [h8]
      simp [hlen, h8s]
      omega
    · rw [h8]
      simp only [List.toList_toArray]
      rw [← List.append_assoc, List.take_append_of_le_length (by simp [hlen]; omega), List.take_of_length_le (by simp [hlen]; omega)]
      rfl
  · intro x hx
    rcases List.mem_cons.1 hx with rfl | hx
    · exact hr.below hbel (Nat.le_refl _)
    · exact (H.out.2.2 x hx).below hbel (Nat.le_refl _)
end Go.Proofs.YtnbfenapnfbmeaaGreat
