/- Contracts: slices.Delete. -/
import Derived.Test.YtnbfenapnfbmeaaGreatF1
import Derived.OwnWalk
set_option linter.unusedSimpArgs false
set_option linter.unusedVariables false
namespace Go.Proofs.YtnbfenapnfbmeaaGreat
open Go.RowKit
section
variable {P : Program}
theorem step_append_fits {ops : Array Oper} {o : Oper} {a : Act} {w : World} {K : Act → World → Prop} {Q : Exit → Act → World → Prop} {E : Prop}
    (hg : o.guard = none) (s x : Operand) (t : TypeId) (hop : o.op = Op.call { callee := Callee.builtin Builtin.append, args := #[s, x], argTypes := #[t, t] })
    (base : Nat) (e : TypeId) (i : TypeInfo) (size : Nat) (h1 : P.underlying t = some (.slice e)) (h2 : P.info? e = some i) (h4 : i.size = size)
    (g k cap : Nat) (xs : List Value) (hs : a.eval s = .slice (some ⟨g, 0, none⟩) k cap) (hown : w.ownsRow base e size (.slice (some ⟨g, 0, none⟩) k cap) k xs) (ad : Addr) (m c : Nat) (news : List Value) (hx : a.eval x = .slice (some ad) m c) (hn : news.length = m * size)
    (hc : ∀ j u, news[j]? = some u → w.cell? (ad.add j) = some u) (h1c : ∀ u ∈ news, u.oneCell' = true) (N : Nat) (hN : k + m = N) (b1 : N ≤ cap)
    (hK : ∀ w', w'.ownsRow base e size (.slice (some ⟨g, 0, none⟩) N cap) N (xs ++ news) → w.grownBy w' (some g) → K (a.put o.dst (.slice (some ⟨g, 0, none⟩) N cap)) w') :
    if Region.wanted o (yielded ops a.tmps) = true then Oper.wp P o a w K Q else E := by
  subst hN
  have hw : Region.wanted o (yielded ops a.tmps) = true := by simp [Region.wanted, hg]
  rw [if_pos hw]
  obtain ⟨w', hrun, r1, r2⟩ := run_append_fits (P := P) w base t o.type e i size h1 h2 h4 g k cap xs hown ad m c news hn hc h1c b1
  unfold Oper.wp
  simp [execOp, hop, resolve, invoke, builtin, hs, hx, hrun, Result.andThen]
  exact hK w' r1 r2
theorem run_clear_rowN (w : World) (t ty elem : TypeId) (g o n c sz : Nat) (i : TypeInfo) (z : Value) (cur : Array Value) (bt : TypeId) (zs : List Value)
    (hu : P.underlying t = some (.slice elem)) (hi : P.info? elem = some i) (hz : i.zero = some z) (hzs : (Builtin.zeroCells z.cells (n + 1)).toList = zs)
    (hg : w.heap[g]? = some (.cells cur bt (0, 0))) (hfit : o + zs.length ≤ cur.size) (h1 : ∀ v ∈ zs, v.oneCell' = true) :
    (Builtin.clear_ #[t] ty #[.slice (some ⟨g, o, none⟩) (n + 1) c]).run P w = .ok (.tuple #[]) (w.setRow g (cur.toList.take o ++ zs ++ cur.toList.drop (o + zs.length)).toArray) := by
  have hst := run_storeCells_at P g o bt zs 0 cur w hg (by simpa using hfit) h1
  simp [Builtin.clear_, run_underlying hu, zeroValue, typeInfo, hi, hz, hzs, hst]
theorem wpList_clear_run (w : World) {ops : Array Oper} {rest : List Oper} {o : Oper} {a : Act} {Q : Exit → Act → World → Prop} (hgd : o.guard = none) (x : Operand) (t : TypeId)
    (ho : o.op = .call { callee := .builtin .clear, args := #[x], argTypes := #[t] }) (v : Value) (hx : a.eval x = v) {v' : Value} {w' : World}
    (hr : (Builtin.clear_ #[t] o.type #[v]).run P w = .ok v' w') (h : wpList P ops Q rest (a.put o.dst v') w') : wpList P ops Q (o :: rest) a w := by
  refine wpList_plain hgd fun K hK => ?_
  unfold Oper.wp execOp
  simp only [ho, resolve, invoke, builtin, Sem.run_bind, Sem.run_pure, Result.andThen_ok, List.map_toArray, List.map_cons, List.map_nil, hx, hr]
  exact hK _ _ h
end
theorem flatMap_take8 {α : Type} (enc : α → List Value) (sz : Nat) (hs : ∀ x, (enc x).length = sz) (xs : List α) (k : Nat) : (xs.take k).flatMap enc = (xs.flatMap enc).take (k * sz) := by
  induction xs generalizing k with
  | nil => simp
  | cons x l ih =>
    cases k with
    | zero => simp
    | succ k =>
      rw [List.take_succ_cons, List.flatMap_cons, List.flatMap_cons, ih, Nat.succ_mul, Nat.add_comm, ← hs x, List.take_length_add_append]
theorem flatMap_drop8 {α : Type} (enc : α → List Value) (sz : Nat) (hs : ∀ x, (enc x).length = sz) (xs : List α) (k : Nat) : (xs.drop k).flatMap enc = (xs.flatMap enc).drop (k * sz) := by
  induction xs generalizing k with
  | nil => simp
  | cons x l ih =>
    cases k with
    | zero => simp
    | succ k =>
      rw [List.drop_succ_cons, List.flatMap_cons, ih, Nat.succ_mul, Nat.add_comm, ← hs x, List.drop_length_add_append]
theorem zeros_rule : (Builtin.zeroCells (Value.cells (.agg #[.int .i64 0, .int .i64 0, .int .u64 0, .slice none 0 0, .int .i64 0, .string ⟨#[]⟩, .int .i64 0, .string ⟨#[]⟩])) (0 + 1)).toList = [.int .i64 0, .int .i64 0, .int .u64 0, .slice none 0 0, .int .i64 0, .string ⟨#[]⟩, .int .i64 0, .string ⟨#[]⟩] := by kernel_rfl
theorem own_prefix {w : World} {B n cap sz g : Nat} {E : TypeId} {xs : List Value} (h : w.ownsRow B E sz (.slice (some ⟨g, 0, none⟩) n cap) n xs) (k : Nat) (hk : k ≤ n) : w.ownsRow B E sz (.slice (some ⟨g, 0, none⟩) k cap) k (xs.take (k * sz)) := by
  have hm : k * sz ≤ n * sz := Nat.mul_le_mul_right _ hk
  rcases h.2 with ⟨he, _⟩ | ⟨g', cap', cur, he, hb, hg, hc, hcm, hs, ht⟩
  · cases he
  · cases he
    refine ⟨by rw [List.length_take, h.1]; omega, .inr ⟨g, cap, cur, rfl, hb, hg, by omega, hcm, hs, ?_⟩⟩
    rw [← ht, List.take_take, Nat.min_eq_left hm]
abbrev zeroRule : List Value := [.int .i64 0, .int .i64 0, .int .u64 0, .slice none 0 0, .int .i64 0, .string ⟨#[]⟩, .int .i64 0, .string ⟨#[]⟩]
/-- The row behind 'clear': the last element is zero, the others are as they were. -/
theorem own_clear {w : World} {B n g : Nat} {xs : List Value} {i0 : TypeInfo} {z : Value} (h : w.ownsRow B tRule 8 (.slice (some ⟨g, 0, none⟩) n (n + 1)) n xs) (hi : Tryz.prog.info? tRule = some i0) (hz : i0.zero = some (.agg #[.int .i64 0, .int .i64 0, .int .u64 0, .slice none 0 0, .int .i64 0, .string ⟨#[]⟩, .int .i64 0, .string ⟨#[]⟩])) :
    ∃ w3 : World, (∀ ty, (Builtin.clear_ #[25] ty #[.slice (some ⟨g, n * 8, none⟩) 1 1]).run Tryz.prog w = .ok (.tuple #[]) w3) ∧ w3.ownsRow B tRule 8 (.slice (some ⟨g, 0, none⟩) n (n + 1)) n xs ∧ w.grownBy w3 (some g) ∧ Keeps tTest w w3 := by
  rcases h.2 with ⟨he, _⟩ | ⟨g', cap', cur, he, hb, hg, hc, hcm, hs, ht⟩
  · cases he
  · cases he
    refine ⟨w.setRow g (cur.toList.take (n * 8) ++ zeroRule ++ cur.toList.drop (n * 8 + zeroRule.length)).toArray, fun ty => run_clear_rowN w _ ty tRule g (n * 8) 0 1 8 i0 _ cur tRule zeroRule Tryz.underlying25 hi hz zeros_rule hg (by rw [hs]; simp; omega) (by intro v hv; simp [zeroRule] at hv; rcases hv with rfl | rfl | rfl | rfl | rfl | rfl | rfl | rfl <;> rfl), ?_, ?_, ?_⟩
    · refine ⟨h.1, .inr ⟨g, n + 1, _, rfl, hb, setRow_heap _ _ cur _ _ (0, 0) hg, hc, hcm, ?_, ?_⟩⟩
      · simp [hs, zeroRule]
        try omega
      · rw [← ht]
        simp only [List.toList_toArray]
        rw [List.append_assoc, List.take_append_of_le_length (by simp [hs]), List.take_take, Nat.min_self]
    · exact ⟨rfl, rfl, rfl, by simp, fun k hk hne => setRow_other _ _ _ _ (fun e => hne (by rw [e]))⟩
    · intro b cs fz hb
      refine (setRow_other _ _ _ _ ?_).trans hb
      intro e
      rw [e, hg] at hb
      cases hb
/-- What is left without element i. -/
theorem delete_end {w w2 w3 : World} {B ab i n : Nat} {rs : List Rule} (hBw : B ≤ ab) (hi : i ≤ n) (hl : rs.length = n + 1) (hsm : n ≤ 1000) (HD : ∀ r ∈ rs, RuleAt w r) (hown : w.ownsRow B tRule 8 (.slice (some ⟨ab, 0, none⟩) i (n + 1)) i ((rs.take i).flatMap Rule.cells))
    (hg2 : w.drew.grownBy w2 (some ab)) (hg3 : w2.grownBy w3 (some ab)) (hk3 : Keeps tTest w2 w3)
    (ho : w3.ownsRow B tRule 8 (.slice (some ⟨ab, 0, none⟩) n (n + 1)) n ((rs.take i).flatMap Rule.cells ++ (rs.drop (i + 1)).flatMap Rule.cells)) :
    InsPost w B (rs.eraseIdx i) (.returned (.slice (some ⟨ab, 0, none⟩) n (n + 1))) w3 := by
  have hel : (rs.eraseIdx i).length = n := by rw [List.length_eraseIdx_of_lt (by omega)]; omega
  have hk2 : Keeps tTest w w2 := Keeps.own (w := w.drew) (v := .slice (some ⟨ab, 0, none⟩) i (n + 1)) hown hg2
  have hbl : B ≤ w.heap.size := by
    have := (hown.lt ab rfl).2
    omega
  refine ⟨some ⟨ab, 0, none⟩, n + 1, by rw [hel], ⟨by omega, ?_, ?_⟩, ?_⟩
  · rw [hel]
    unfold OwnRow
    rw [hel, List.eraseIdx_eq_take_drop_succ, List.flatMap_append]
    exact ho
  · intro x hx
    exact ((HD x (List.mem_of_mem_eraseIdx hx)).keep hk2).keep hk3
  · have h1 : Below B w w2 := (pw_drew (Below.refl B w)).grown (row := some ab) hg2 hbl (fun k hk => by cases hk; exact hBw)
    exact h1.grown (row := some ab) hg3 (Nat.le_trans hbl h1.size) (fun k hk => by cases hk; exact hBw)
set_option maxRecDepth 100000 in
set_option maxHeartbeats 1000000 in
theorem c_delete (B ab : Nat) (rs : List Rule) (i : Nat) (w : World) (hi : i < rs.length) (hl : rs.length ≤ 1000) (h : RulesOwn w B (.slice (some ⟨ab, 0, none⟩) rs.length rs.length) rs) :
    Calls Tryz.prog 52 #[.slice (some ⟨ab, 0, none⟩) rs.length rs.length, .int .i64 i, .int .i64 ((i : Int) + 1)] w (InsPost w B (rs.eraseIdx i)) := by
  obtain ⟨i0, hi0, hz0, hz1, hz2⟩ := info_parts info_rule
  have HI := Lib.hid hi0
  have hlen : (rs.flatMap Rule.cells).length = rs.length * 8 := flatMap_len Rule.cells 8 (fun _ => rfl) rs
  have hpre := own_prefix h.2.1 i (by omega)
  rw [← flatMap_take8 Rule.cells 8 (fun _ => rfl)] at hpre
  obtain ⟨a2, c2, he2, _, hrow⟩ := h.2.1.shape (fun _ => rfl)
  cases he2
  have hnews := hrow.news (by decide) (fun _ => rfl)
  have hone : ∀ u ∈ (rs.drop (i + 1)).flatMap Rule.cells, u.oneCell' = true := fun u hu => by
    obtain ⟨y, _, hy⟩ := List.mem_flatMap.1 hu
    exact one_rule y u hy
  have hnl : ((rs.drop (i + 1)).flatMap Rule.cells).length = (rs.length - (i + 1)) * 8 := by rw [flatMap_len Rule.cells 8 (fun _ => rfl), List.length_drop]
  have hnw : ∀ (j : Nat) u, ((rs.drop (i + 1)).flatMap Rule.cells)[j]? = some u → w.cell? ((⟨ab, (i + 1) * 8, none⟩ : Addr).add j) = some u := fun j u hj => by
    rw [flatMap_drop8 Rule.cells 8 (fun _ => rfl), List.getElem?_drop] at hj
    have := hnews _ _ hj
    rw [Addr.add_lit, Nat.zero_add] at this
    rw [Addr.add_lit]
    exact this
  have hdl := h.2.2
  have hrl := h.1
  have hBw : B ≤ ab ∧ ab < w.heap.size := h.2.1.lt ab rfl
  have HD := Lib.hid hdl
  have H0 := Lib.hid h
  have HP := Lib.hid hpre
  have HN := Lib.hid hnw
  have HO := Lib.hid hone
  clear h hpre hnw hone hnews hrow hi0 hdl
  obtain ⟨n, hn⟩ : ∃ n, rs.length = n + 1 := ⟨rs.length - 1, by omega⟩
  rw [hn] at hi hl hlen hnl HP H0 ⊢
  have HL := Lib.hid hn
  clear hn
  have b1 : (i : Int) ≤ (i : Int) + 1 := by omega
  have b2 : (i : Int) + 1 ≤ (n : Int) + 1 := by omega
  have b3 : (i : Int) ≤ (n : Int) + 1 := by omega
  have b4 : ((i : Int) == (i : Int) + 1) = false := by rw [beq_eq_false_iff_ne]; omega
  have b5 : (0 : Int) ≤ (i : Int) + 1 := by omega
  go_enter Tryz.func52, Tryz.ntmps52
  by_cases hne : n = i
  · subst hne
    have HM : Hid (∀ (j : Nat) u, ([] : List Value)[j]? = some u → w.cell? ((⟨ab, 0, none⟩ : Addr).add j) = some u) := Lib.hid (fun j u hj => by simp at hj)
    have HM1 : Hid (∀ u ∈ ([] : List Value), u.oneCell' = true) := Lib.hid (fun u hu => by simp at hu)
    go_wp2
    go_region_law (refine step_append_fits (by rfl) _ _ _ (by rfl) B tRule i0 8 Tryz.underlying25 HI.out hz1 ab n (n + 1) ((rs.take n).flatMap Rule.cells) (by simp [Act.eval, Act.put]) HP.out ⟨ab, 0, none⟩ 0 0 [] (by simp [Act.eval, Act.put]) (by simp) HM.out HM1.out n (by omega) (by omega) ?_; intro w2 hown2 hg2; have HO2 := Lib.hid hown2; have HG2 := Lib.hid hg2; clear hown2 hg2)
    have ho2 := HO2.out
    rw [List.append_nil] at ho2
    obtain ⟨w3, hrun, ho3, hg3, hk3⟩ := own_clear (z := .nilFunc) ho2 HI.out hz0
    have HRUN := Lib.hid hrun
    clear hrun
    go_wp2_with (refine wpList_clear_run _ rfl _ _ rfl _ rfl (HRUN.out _) ?_)
    go_ret
    exact delete_end hBw.1 (Nat.le_refl _) HL.out (by omega) HD.out HP.out HG2.out hg3 hk3 (by rw [List.drop_eq_nil_of_le (by rw [HL.out]; exact Nat.le_refl _)]; simpa using ho3)
  · have c1 : ¬ n = i := hne
    go_wp2
    go_region_law (refine step_append_fits (by rfl) _ _ _ (by rfl) B tRule i0 8 Tryz.underlying25 HI.out hz1 ab i (n + 1) ((rs.take i).flatMap Rule.cells) (by simp [Act.eval, Act.put]) HP.out ⟨ab, (i + 1) * 8, none⟩ (n - i) (n - i) ((rs.drop (i + 1)).flatMap Rule.cells) (by simp [Act.eval, Act.put, c1]) (by rw [hnl]; congr 1; omega) HN.out HO.out n (by omega) (by omega) ?_; intro w2 hown2 hg2; have HO2 := Lib.hid hown2; have HG2 := Lib.hid hg2; clear hown2 hg2)
    obtain ⟨w3, hrun, ho3, hg3, hk3⟩ := own_clear (z := .nilFunc) HO2.out HI.out hz0
    have HRUN := Lib.hid hrun
    clear hrun
    go_wp2_with (refine wpList_clear_run _ rfl _ _ rfl _ rfl (HRUN.out _) ?_)
    go_ret
    exact delete_end hBw.1 (by omega) HL.out (by omega) HD.out HP.out HG2.out hg3 hk3 ho3
end Go.Proofs.YtnbfenapnfbmeaaGreat
