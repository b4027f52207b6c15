/- Contracts: answers from a number. -/
import Derived.Test.YtnbfenapnfbmeaaGreatP5
import Derived.Laws.Shifts
import Derived.Test.YtnbfenapnfbmeaaGreatQ8
import Derived.Test.YtnbfenapnfbmeaaGreatM1
set_option linter.unusedSimpArgs false
set_option linter.unusedVariables false
namespace Go.Proofs.YtnbfenapnfbmeaaGreat
open Go.RowKit
def boolCells (b : Bool) : List Value := [.bool b]
theorem info_bool : (Tryz.prog.info? tBool).map (fun i => (i.zero, i.size, i.bytes)) = some (some (.bool false), 1, 1) := by kernel_rfl
theorem one_bool (x : Bool) : ∀ u ∈ boolCells x, u.oneCell' = true := by intro u hu; simp [boolCells] at hu; subst hu; rfl
def BoolsPost (w : World) (e : Ending) (w' : World) : Prop := ∃ (a : Option Addr) (c : Nat) (hs : List Bool), e = .returned (.slice a hs.length c) ∧ HitsAt w' a hs ∧ Below w.heap.size w w'
set_option maxRecDepth 100000 in
set_option maxHeartbeats 1000000 in
theorem c_bools (n k : Int) (h0 : 0 ≤ n) (hn : n ≤ 100) (w : World) : Calls Tryz.prog 10 #[.int .i64 n, .int .i64 k] w (BoolsPost w) := by
  obtain ⟨i0, hi, hz0, hz1, hz2⟩ := info_parts info_bool
  have HI := Lib.hid hi
  clear hi
  go_enter Tryz.func10, Tryz.ntmps10
  go_wp2
  go_loopg [5, 6] 100 (fun gg s5 s6 wr => ∃ (j : Nat) (hs : List Bool), j + gg = 100 ∧ (j : Int) ≤ n ∧ hs.length = j ∧ s6 = .int .i64 j ∧ Aside (OwnRow wr w.heap.size tBool 1 boolCells s5 hs) ∧ Aside (Below w.heap.size w wr))
  case atStart => exact ⟨0, [], rfl, by omega, rfl, rfl, World.ownsRow_nil _ _ _ _, Below.refl _ _⟩
  case round =>
    obtain ⟨j, hs, hg, hj, rfl, rfl, HO, HB⟩ := hrel
    by_cases hlt : (hs.length : Int) < n
    · have hl2 : hs.length ≤ 100 := by omega
      go_wp2_with (at_builtin; refine wpList_append_lies (w := wr.alloc (.cells #[.bool _] tBool)) rfl _ _ 40 rfl w.heap.size tBool i0 _ 1 1 Tryz.underlying40 HI.out hz0 hz1 hz2 rfl (by decide) u5 hs.length (hs.flatMap boolCells) rfl (World.ownsRow.alloc HO _) ⟨wr.heap.size, 0, none⟩ 1 1 (boolCells _) rfl rfl (news_new _ _ _) (one_bool _) (by decide) (by unfold maxLen; omega) (by omega) (by rw [World.size_alloc]; exact Nat.le_succ_of_le HB.size) _ rfl ?_; intro g cap w2 hown2 hg2 hgb hlt2; have HO2 := Lib.hid hown2; have HG2 := Lib.hid hg2; clear hown2 hg2)
      go_roundg (gk - 1)
      case measure => omega
      case rel =>
        obtain ⟨bv, hbv⟩ : ∃ bv, w2.ownsRow w.heap.size tBool 1 (.slice (some ⟨g, 0, none⟩) (hs.length + 1) cap) (hs.length + 1) (hs.flatMap boolCells ++ boolCells bv) := ⟨_, HO2.out⟩
        refine ⟨hs.length + 1, hs ++ [bv], by omega, by omega, by simp, by go_num, ?_, ?_⟩
        · show OwnRow _ _ _ _ _ _ _
          unfold OwnRow
          rw [List.flatMap_append, List.length_append]
          simpa using hbv
        · exact (HB.alloc HB.size _).grown HG2.out (by rw [World.size_alloc]; exact Nat.le_succ_of_le HB.size) (fun k hk => (World.ownsRow.lt HO k hk).1)
    · obtain ⟨a, c, rfl, _, hrow⟩ := OwnRow.shape HO (fun _ => rfl)
      go_wp2
      go_ret
      exact ⟨a, c, hs, rfl, ⟨by omega, hrow⟩, HB⟩
end Go.Proofs.YtnbfenapnfbmeaaGreat
/- The law RulesBuilt: the walk. -/
set_option linter.unusedSimpArgs false
set_option linter.unusedVariables false
namespace Go.Proofs.YtnbfenapnfbmeaaGreat
open Go.RowKit
/-- What the law reads in a later world. -/
structure BAt (w : World) (b : Nat) (X : Ctx) (a : Option Addr) (rs : List Rule) (ha : Option Addr) (hs : List Bool) (V : World) : Prop where
  below : Below w.heap.size w V
  xb : V.heap[b]? = some (ctxBox X)
  list : RulesAt V a rs
  items : ItemsAt V X.ia X.items
  hits : HitsAt V ha hs
theorem BAt.step {w V V' : World} {b : Nat} {X : Ctx} {a ha : Option Addr} {rs : List Rule} {hs : List Bool} (h : BAt w b X a rs ha hs V) (hb : Below V.heap.size V V') : BAt w b X a rs ha hs V' :=
  ⟨h.below.trans (hb.mono h.below.size), (hb.block _ (lt_of_some h.xb)).trans h.xb, h.list.below hb (Nat.le_refl _), h.items.below hb (Nat.le_refl _), h.hits.below hb (Nat.le_refl _)⟩
theorem BAt.drewN {w V : World} {b : Nat} {X : Ctx} {a ha : Option Addr} {rs : List Rule} {hs : List Bool} (h : BAt w b X a rs ha hs V) (n : Nat) : BAt w b X a rs ha hs (V.drewN n) :=
  h.step (pw_drewN (Below.refl _ V) n)
theorem RulesAt.cellsAt {V : World} {b off : Nat} {rs : List Rule} (h : RulesAt V (some ⟨b, off, none⟩) rs) (k : Nat) (hk : k < rs.length) : CellsR V b (off + k * 8) rs[k] := by
  obtain ⟨b', off', he, _, _, d0, d1, d2, d3, d4, d5, d6, d7⟩ := h.at (Below.refl _ _) k hk
  cases he
  exact ⟨d0, d1, d2, d3, d4, d5, d6, d7⟩
set_option maxRecDepth 100000 in
set_option maxHeartbeats 4000000 in
theorem c_rulesBuilt (la : Option Addr) (xs : List Int) (lc : Nat) (bits : Int) (w : World) (hr : SrcRow w w.heap.size la xs) :
    Calls Tryz.prog 3 #[.slice la xs.length lc, .int .i64 bits] w (HoldsPost w true) := by
  go_enter Tryz.func3, Tryz.ntmps3
  go_upto_region 2 with (first | (go_at_call 7; refine (c_new la xs lc w hr).mono ?_; rintro e w1 ⟨rfl, hs, hb⟩; have HS := Lib.hid hs; have HB := Lib.hid hb; clear hs hb))
  clear hr
  go_upto_region 4 with (first
      | (go_at_call 8; refine (c_rules w.heap.size la xs lc 0 8 _ HS.out (by decide) (by decide)).mono ?_; rintro e w2 ⟨v, rs, n2, rfl, ho, hlen, hchk, hmill⟩; obtain ⟨a, c, rfl, hnil, hat⟩ := ho.shape; have HO := Lib.hid hat; have HM := Lib.hid hmill; have hle := hmill.le; clear hnil hat hchk ho hmill)
      | (go_at_call 9; refine (c_context w.heap.size la xs lc _ _ HM.out.src (by omega)).mono ?_; rintro e w3 ⟨X, n3, rfl, hit, hs3, hn3, hm3⟩; have HIT := Lib.hid hit; have HM3 := Lib.hid (HM.out.step hs3 hn3 hm3); have hle3 := HM3.out.le; have HO3 := Lib.hid (HO.out.keep (HM.out.src.keeps hm3 (by decide)) (HM.out.src.keeps hm3 (by decide))); clear hit hs3 hn3 hm3)
      | (refine wpList_store_row (by rfl) 38 _ _ (by rfl) _ X.vs (by rfl) (by rfl) 38 _ (heap_new _ _) (by kernel_rfl) (by rfl) (by kernel_rfl) ?_; rw [setRow_new]; have HX4 := Lib.hid (heap_new w3 (ctxBox X)); have hb4 := (Below.refl w3.heap.size w3).alloc (Nat.le_refl _) (ctxBox X); have HM4 := Lib.hid (HM3.out.alloc (ctxBox X)); have HO4 := Lib.hid (HO3.out.below hb4 (Nat.le_refl _)); have HIT4 := Lib.hid (HIT.out.below hb4 (Nat.le_refl _)); clear hb4)
      | (go_at_call 11; refine (c_n w.heap.size la xs lc _ _ _ HM4.out.src (by omega) (by omega) (by omega)).mono ?_; rintro e w5 ⟨y, n5, rfl, ⟨hy1, hy2⟩, hs5, hn5, hm5⟩; have HM5 := Lib.hid (HM4.out.step hs5 hn5 hm5); have HX5 := Lib.hid (hm5.box HX4.out (Nat.ne_of_gt (lt_of_some HM3.out.src.blk))); have HO5 := Lib.hid (HO4.out.keep (HM4.out.src.keeps hm5 (by decide)) (HM4.out.src.keeps hm5 (by decide))); have HIT5 := Lib.hid (HIT4.out.keep (HM4.out.src.keeps hm5 (by decide))); clear hs5 hn5 hm5)
      | (go_at_call 10; refine (c_bools y bits (by omega) (by omega) _).mono ?_; rintro e w6 ⟨ha, hc, hs, rfl, hh6, hb6⟩; have HA := Lib.hid (BAt.mk ((Below.moved HB.out HM5.out.moved (Nat.le_refl _) HB.out.size).trans (hb6.mono (Nat.le_trans HB.out.size HM5.out.moved.size))) ((hb6.block _ (lt_of_some HX5.out)).trans HX5.out) (HO5.out.below hb6 (Nat.le_refl _)) (HIT5.out.below hb6 (Nat.le_refl _)) hh6 : BAt w w3.heap.size X a rs ha hs w6); clear hh6 hb6))
  obtain ⟨b, hbe⟩ : ∃ b, b = w3.heap.size := ⟨_, rfl⟩
  rw [← hbe] at HA ⊢
  clear hbe hle hle3 hy1 hy2 HM HM3 HM4 HM5 HO HO3 HO4 HO5 HIT HIT4 HIT5 HX4 HX5 HS HB
  go_wp2
  go_loopg [9] rs.length (fun gg s9 wr => ∃ k : Nat, k ≤ rs.length ∧ rs.length - k ≤ gg ∧ s9 = .int .i64 k ∧ Aside (BAt w b X a rs ha hs wr))
  case atStart => exact ⟨0, Nat.zero_le _, by omega, rfl, HA.out⟩
  case round =>
    clear HA
    obtain ⟨k, hk, hg, rfl, HA1⟩ := hrel
    have HA := Lib.hid HA1
    clear HA1
    have hl8 := HA.out.list.1
    by_cases hlt : k < rs.length
    · obtain ⟨bb, off, hea, _, hat, _⟩ := HA.out.list.at (Below.refl _ _) k hlt
      have hl2 : (k : Int) < (rs.length : Int) := by omega
      subst hea
      have hcs : ∀ V, BAt w b X (some ⟨bb, off, none⟩) rs ha hs V → CellsR V bb (off + k * 8) rs[k] := fun V h => h.list.cellsAt k hlt
      have hrt : ∀ V, BAt w b X (some ⟨bb, off, none⟩) rs ha hs V → RuleAt V rs[k] := fun V h => h.list.2.2 _ (List.getElem_mem hlt)
      clear hat
      generalize rs[k] = x at hcs hrt
      have f0 : ∀ V, BAt w b X (some ⟨bb, off, none⟩) rs ha hs V → V.cell? ⟨bb, off + k * 8, none⟩ = some (.int .i64 x.list) := fun V h => (hcs V h).1
      have f1 : ∀ V, BAt w b X (some ⟨bb, off, none⟩) rs ha hs V → V.cell? ⟨bb, off + k * 8 + 1, none⟩ = some (.int .i64 x.action) := fun V h => (hcs V h).2.1
      have f2 : ∀ V, BAt w b X (some ⟨bb, off, none⟩) rs ha hs V → V.cell? ⟨bb, off + k * 8 + 2, none⟩ = some (.int .u64 x.calls) := fun V h => (hcs V h).2.2.1
      have f3 : ∀ V, BAt w b X (some ⟨bb, off, none⟩) rs ha hs V → V.cell? ⟨bb, off + k * 8 + 3, none⟩ = some (.slice x.ta x.tests.length x.tc) := fun V h => (hcs V h).2.2.2.1
      have f4 : ∀ V, BAt w b X (some ⟨bb, off, none⟩) rs ha hs V → V.cell? ⟨bb, off + k * 8 + 4, none⟩ = some (.int .i64 x.watch) := fun V h => (hcs V h).2.2.2.2.1
      have f5 : ∀ V, BAt w b X (some ⟨bb, off, none⟩) rs ha hs V → V.cell? ⟨bb, off + k * 8 + 5, none⟩ = some (.string x.path) := fun V h => (hcs V h).2.2.2.2.2.1
      have f6 : ∀ V, BAt w b X (some ⟨bb, off, none⟩) rs ha hs V → V.cell? ⟨bb, off + k * 8 + 6, none⟩ = some (.int .i64 x.perm) := fun V h => (hcs V h).2.2.2.2.2.2.1
      have f7 : ∀ V, BAt w b X (some ⟨bb, off, none⟩) rs ha hs V → V.cell? ⟨bb, off + k * 8 + 7, none⟩ = some (.string x.key) := fun V h => (hcs V h).2.2.2.2.2.2.2
      have hm1 := fun V (h : BAt w b X (some ⟨bb, off, none⟩) rs ha hs V) => c_matches x false X V (hrt V h) h.items
      have hr1 := fun V (h : BAt w b X (some ⟨bb, off, none⟩) rs ha hs V) => c_rmatches x false X V (hrt V h) h.items
      have hm2 := fun V (h : BAt w b X (some ⟨bb, off, none⟩) rs ha hs V) => c_matches x true X V (hrt V h) h.items
      have hr2 := fun V (h : BAt w b X (some ⟨bb, off, none⟩) rs ha hs V) => c_rmatches x true X V (hrt V h) h.items
      generalize matchesB x false X = v0 at hm1 hr1
      generalize matchesB x true X = v1 at hm2 hr2
      have HM1 := Lib.hid hm1
      have HR1 := Lib.hid hr1
      have HM2 := Lib.hid hm2
      have HR2 := Lib.hid hr2
      have HD := Lib.hid (HA.out.drewN 1)
      clear hm1 hr1 hm2 hr2 hcs hrt
      go_upto_region 7 with fail
      refine wp_region_held_drew (S := fun V => BAt w b X (some ⟨bb, off, none⟩) rs ha hs V) (by kernel_rfl) HD.out (fun hS0 => ?_)
      refine takeAt 0 (v := ?_) rfl rfl (by kernel_rfl) (by kernel_rfl) (by kernel_rfl) (fun _ _ _ h => h) (Or.inl ⟨by rfl, (by intro w hSw; (try dsimp only at hSw); go_simp; try with_reducible rfl)⟩) (by assumption) ?_
      try simp only [Act.put, List.setIfInBounds_toArray, List.set_cons_zero, List.set_cons_succ]
      refine takeAt 1 (v := ?_) rfl rfl (by kernel_rfl) (by kernel_rfl) (by kernel_rfl) (fun _ _ _ h => h) (Or.inl ⟨by rfl, (by intro w hSw; (try dsimp only at hSw); go_simp; try with_reducible rfl)⟩) (by assumption) ?_
      try simp only [Act.put, List.setIfInBounds_toArray, List.set_cons_zero, List.set_cons_succ]
      refine takeAt 2 (v := ?_) rfl rfl (by kernel_rfl) (by kernel_rfl) (by kernel_rfl) (fun _ _ _ h => h) (Or.inl ⟨by rfl, (by intro w hSw; (try dsimp only at hSw); go_simp; try with_reducible rfl)⟩) (by assumption) ?_
      try simp only [Act.put, List.setIfInBounds_toArray, List.set_cons_zero, List.set_cons_succ]
      refine takeAt 3 (v := ?_) rfl rfl (by kernel_rfl) (by kernel_rfl) (by kernel_rfl) (fun _ _ _ h => h) (Or.inl ⟨by rfl, (by intro w hSw; (try dsimp only at hSw); go_simp; try with_reducible rfl)⟩) (by assumption) ?_
      try simp only [Act.put, List.setIfInBounds_toArray, List.set_cons_zero, List.set_cons_succ]
      refine takeAt 4 rfl rfl (by kernel_rfl) (by kernel_rfl) (by kernel_rfl) (fun _ _ _ h => h) (yields_row (by rfl) 38 _ (by rfl) b (by rfl) 38 X.vs (0, 0) _ (fun _ h => BAt.xb h) Tryz.underlying38 rfl (by kernel_rfl)) (by assumption) ?_
      try simp only [Act.put, List.setIfInBounds_toArray, List.set_cons_zero, List.set_cons_succ]
      refine takeAt 6 (v := ?_) rfl rfl (by kernel_rfl) (by kernel_rfl) (by kernel_rfl) (fun _ _ _ h => h) (Or.inl ⟨by rfl, (by intro w hSw; (try dsimp only at hSw); go_simp; try with_reducible rfl)⟩) (by assumption) ?_
      try simp only [Act.put, List.setIfInBounds_toArray, List.set_cons_zero, List.set_cons_succ]
      refine takeAt 7 (v := ?_) rfl rfl (by kernel_rfl) (by kernel_rfl) (by kernel_rfl) (fun _ _ _ h => h) (Or.inl ⟨by rfl, (by intro w hSw; (try dsimp only at hSw); go_simp; try with_reducible rfl)⟩) (by assumption) ?_
      try simp only [Act.put, List.setIfInBounds_toArray, List.set_cons_zero, List.set_cons_succ]
      refine takeAt 8 (v := ?_) rfl rfl (by kernel_rfl) (by kernel_rfl) (by kernel_rfl) (fun _ _ _ h => h) (Or.inl ⟨by rfl, (by intro w hSw; (try dsimp only at hSw); go_simp; try with_reducible rfl)⟩) (by assumption) ?_
      try simp only [Act.put, List.setIfInBounds_toArray, List.set_cons_zero, List.set_cons_succ]
      refine takeAt 9 (v := ?_) rfl rfl (by kernel_rfl) (by kernel_rfl) (by kernel_rfl) (fun _ _ _ h => h) (Or.inl ⟨by rfl, (by intro w hSw; (try dsimp only at hSw); go_simp; try with_reducible rfl)⟩) (by assumption) ?_
      try simp only [Act.put, List.setIfInBounds_toArray, List.set_cons_zero, List.set_cons_succ]
      refine takeAt 10 rfl rfl (by kernel_rfl) (by kernel_rfl) (by kernel_rfl) (fun _ _ _ h => h) (yields_row (by rfl) 38 _ (by rfl) b (by rfl) 38 X.vs (0, 0) _ (fun _ h => BAt.xb h) Tryz.underlying38 rfl (by kernel_rfl)) (by assumption) ?_
      try simp only [Act.put, List.setIfInBounds_toArray, List.set_cons_zero, List.set_cons_succ]
      refine wpAnyH_ready (rs := [5]) (by kernel_rfl) (by simp) (AllReadyH.cons rfl (fun K hK => ?_) AllReadyH.nil)
      go_simp
      go_at_call 12
      refine (HM1.out _ (by assumption)).mono ?_
      rintro e w2 ⟨rfl, hb2⟩
      have HS := Lib.hid (BAt.step (by assumption) hb2)
      clear hb2
      go_wp2_with fail
      refine hK.out _ _ HS.out (fun hHeld => ?_)
      clear hK K
      try simp only [Act.put, List.setIfInBounds_toArray, List.set_cons_zero, List.set_cons_succ]
      refine wpAnyH_ready (rs := [11]) (by kernel_rfl) (by simp) (AllReadyH.cons rfl (fun K hK => ?_) AllReadyH.nil)
      go_simp
      go_at_call 13
      refine (HR1.out _ (by assumption)).mono ?_
      rintro e w2 ⟨rfl, hb2⟩
      have HS := Lib.hid (BAt.step (by assumption) hb2)
      clear hb2
      go_wp2_with fail
      refine hK.out _ _ HS.out (fun hHeld => ?_)
      clear hK K
      try simp only [Act.put, List.setIfInBounds_toArray, List.set_cons_zero, List.set_cons_succ]
      refine takeAt 12 (v := ?_) rfl rfl (by kernel_rfl) (by kernel_rfl) (by kernel_rfl) (fun _ _ _ h => h) (Or.inl ⟨by rfl, (by intro w hSw; (try dsimp only at hSw); go_simp; try with_reducible rfl)⟩) (by assumption) ?_
      try simp only [Act.put, List.setIfInBounds_toArray, List.set_cons_zero, List.set_cons_succ]
      refine takeAt 13 (v := ?_) rfl rfl (by kernel_rfl) (by kernel_rfl) (by kernel_rfl) (fun _ _ _ h => h) (Or.inl ⟨by rfl, (by intro w hSw; (try dsimp only at hSw); go_simp; try with_reducible rfl)⟩) (by assumption) ?_
      try simp only [Act.put, List.setIfInBounds_toArray, List.set_cons_zero, List.set_cons_succ]
      refine takeAt 14 (v := ?_) rfl rfl (by kernel_rfl) (by kernel_rfl) (by kernel_rfl) (fun _ _ _ h => h) (Or.inl ⟨by rfl, (by intro w hSw; (try dsimp only at hSw); go_simp; try with_reducible rfl)⟩) (by assumption) ?_
      try simp only [Act.put, List.setIfInBounds_toArray, List.set_cons_zero, List.set_cons_succ]
      refine takeAt 15 (v := ?_) rfl rfl (by kernel_rfl) (by kernel_rfl) (by kernel_rfl) (fun _ _ _ h => h) (Or.inl ⟨by rfl, (by intro w hSw; (try dsimp only at hSw); go_simp; try with_reducible rfl)⟩) (by assumption) ?_
      try simp only [Act.put, List.setIfInBounds_toArray, List.set_cons_zero, List.set_cons_succ]
      refine takeAt 16 (v := ?_) rfl rfl (by kernel_rfl) (by kernel_rfl) (by kernel_rfl) (fun _ _ _ h => h) (Or.inl ⟨by rfl, (by intro w hSw; (try dsimp only at hSw); go_simp; try with_reducible rfl)⟩) (by assumption) ?_
      try simp only [Act.put, List.setIfInBounds_toArray, List.set_cons_zero, List.set_cons_succ]
      refine takeAt 17 (v := ?_) rfl rfl (by kernel_rfl) (by kernel_rfl) (by kernel_rfl) (fun _ _ _ h => h) (Or.inl ⟨by rfl, (by intro w hSw; (try dsimp only at hSw); go_simp; try with_reducible rfl)⟩) (by assumption) ?_
      try simp only [Act.put, List.setIfInBounds_toArray, List.set_cons_zero, List.set_cons_succ]
      refine takeAt 18 rfl rfl (by kernel_rfl) (by kernel_rfl) (by kernel_rfl) (fun _ _ _ h => h) (yields_row (by rfl) 38 _ (by rfl) b (by rfl) 38 X.vs (0, 0) _ (fun _ h => BAt.xb h) Tryz.underlying38 rfl (by kernel_rfl)) (by assumption) ?_
      try simp only [Act.put, List.setIfInBounds_toArray, List.set_cons_zero, List.set_cons_succ]
      refine takeAt 20 (v := ?_) rfl rfl (by kernel_rfl) (by kernel_rfl) (by kernel_rfl) (fun _ _ _ h => h) (Or.inl ⟨by rfl, (by intro w hSw; (try dsimp only at hSw); go_simp; try with_reducible rfl)⟩) (by assumption) ?_
      try simp only [Act.put, List.setIfInBounds_toArray, List.set_cons_zero, List.set_cons_succ]
      refine takeAt 21 (v := ?_) rfl rfl (by kernel_rfl) (by kernel_rfl) (by kernel_rfl) (fun _ _ _ h => h) (Or.inl ⟨by rfl, (by intro w hSw; (try dsimp only at hSw); go_simp; try with_reducible rfl)⟩) (by assumption) ?_
      try simp only [Act.put, List.setIfInBounds_toArray, List.set_cons_zero, List.set_cons_succ]
      refine takeAt 22 (v := ?_) rfl rfl (by kernel_rfl) (by kernel_rfl) (by kernel_rfl) (fun _ _ _ h => h) (Or.inl ⟨by rfl, (by intro w hSw; (try dsimp only at hSw); go_simp; try with_reducible rfl)⟩) (by assumption) ?_
      try simp only [Act.put, List.setIfInBounds_toArray, List.set_cons_zero, List.set_cons_succ]
      refine takeAt 23 (v := ?_) rfl rfl (by kernel_rfl) (by kernel_rfl) (by kernel_rfl) (fun _ _ _ h => h) (Or.inl ⟨by rfl, (by intro w hSw; (try dsimp only at hSw); go_simp; try with_reducible rfl)⟩) (by assumption) ?_
      try simp only [Act.put, List.setIfInBounds_toArray, List.set_cons_zero, List.set_cons_succ]
      refine takeAt 24 rfl rfl (by kernel_rfl) (by kernel_rfl) (by kernel_rfl) (fun _ _ _ h => h) (yields_row (by rfl) 38 _ (by rfl) b (by rfl) 38 X.vs (0, 0) _ (fun _ h => BAt.xb h) Tryz.underlying38 rfl (by kernel_rfl)) (by assumption) ?_
      try simp only [Act.put, List.setIfInBounds_toArray, List.set_cons_zero, List.set_cons_succ]
      refine wpAnyH_ready (rs := [19]) (by kernel_rfl) (by simp) (AllReadyH.cons rfl (fun K hK => ?_) AllReadyH.nil)
      go_simp
      go_at_call 12
      refine (HM2.out _ (by assumption)).mono ?_
      rintro e w2 ⟨rfl, hb2⟩
      have HS := Lib.hid (BAt.step (by assumption) hb2)
      clear hb2
      go_wp2_with fail
      refine hK.out _ _ HS.out (fun hHeld => ?_)
      clear hK K
      try simp only [Act.put, List.setIfInBounds_toArray, List.set_cons_zero, List.set_cons_succ]
      refine wpAnyH_ready (rs := [25]) (by kernel_rfl) (by simp) (AllReadyH.cons rfl (fun K hK => ?_) AllReadyH.nil)
      go_simp
      go_at_call 13
      refine (HR2.out _ (by assumption)).mono ?_
      rintro e w2 ⟨rfl, hb2⟩
      have HS := Lib.hid (BAt.step (by assumption) hb2)
      clear hb2
      go_wp2_with fail
      refine hK.out _ _ HS.out (fun hHeld => ?_)
      clear hK K
      try simp only [Act.put, List.setIfInBounds_toArray, List.set_cons_zero, List.set_cons_succ]
      refine takeAt 26 (v := ?_) rfl rfl (by kernel_rfl) (by kernel_rfl) (by kernel_rfl) (fun _ _ _ h => h) (Or.inl ⟨by rfl, (by intro w hSw; (try dsimp only at hSw); go_simp; try with_reducible rfl)⟩) (by assumption) ?_
      try simp only [Act.put, List.setIfInBounds_toArray, List.set_cons_zero, List.set_cons_succ]
      refine takeAt 27 (v := ?_) rfl rfl (by kernel_rfl) (by kernel_rfl) (by kernel_rfl) (fun _ _ _ h => h) (Or.inl ⟨by rfl, (by intro w hSw; (try dsimp only at hSw); go_simp; try with_reducible rfl)⟩) (by assumption) ?_
      try simp only [Act.put, List.setIfInBounds_toArray, List.set_cons_zero, List.set_cons_succ]
      refine wpAnyH_done (by kernel_rfl) ?_ _
      go_wp2
      go_roundg (gk - 1)
      case measure => omega
      case rel => exact ⟨k + 1, by omega, by omega, by go_num, (by assumption)⟩
    · have HF1 := Lib.hid (fun kk V (h : BAt w b X a rs ha hs V) => c_first a c rs kk ha hc hs X V h.list h.hits h.items)
      have HF2 := Lib.hid (fun kk V (h : BAt w b X a rs ha hs V) => c_rfirst a c rs kk ha hc hs X V h.list h.hits h.items)
      go_wp2
      go_loopg [10] 5 (fun gg s10 wr => ∃ k : Nat, k + gg = 5 ∧ s10 = .int .i64 (k + 1) ∧ Aside (BAt w b X a rs ha hs wr))
      case atStart => exact ⟨0, rfl, rfl, HA.out⟩
      case round =>
        clear HA
        obtain ⟨k, hg, rfl, HA1⟩ := hrel
        have HA := Lib.hid HA1
        clear HA1
        have HD := Lib.hid (HA.out.drewN 1)
        by_cases hk5 : (k : Int) + 1 ≤ 5
        · go_upto_region 12 with fail
          refine wp_region_held_drew (S := fun V => BAt w b X a rs ha hs V) (by kernel_rfl) HD.out (fun hS0 => ?_)
          refine takeAt 0 (v := ?_) rfl rfl (by kernel_rfl) (by kernel_rfl) (by kernel_rfl) (fun _ _ _ h => h) (Or.inl ⟨by rfl, (by intro w hSw; (try dsimp only at hSw); go_simp; try with_reducible rfl)⟩) (by assumption) ?_
          try simp only [Act.put, List.setIfInBounds_toArray, List.set_cons_zero, List.set_cons_succ]
          refine takeAt 1 (v := ?_) rfl rfl (by kernel_rfl) (by kernel_rfl) (by kernel_rfl) (fun _ _ _ h => h) (Or.inl ⟨by rfl, (by intro w hSw; (try dsimp only at hSw); go_simp; try with_reducible rfl)⟩) (by assumption) ?_
          try simp only [Act.put, List.setIfInBounds_toArray, List.set_cons_zero, List.set_cons_succ]
          refine takeAt 2 (v := ?_) rfl rfl (by kernel_rfl) (by kernel_rfl) (by kernel_rfl) (fun _ _ _ h => h) (Or.inl ⟨by rfl, (by intro w hSw; (try dsimp only at hSw); go_simp; try with_reducible rfl)⟩) (by assumption) ?_
          try simp only [Act.put, List.setIfInBounds_toArray, List.set_cons_zero, List.set_cons_succ]
          refine takeAt 3 rfl rfl (by kernel_rfl) (by kernel_rfl) (by kernel_rfl) (fun _ _ _ h => h) (yields_row (by rfl) 38 _ (by rfl) b (by rfl) 38 X.vs (0, 0) _ (fun _ h => BAt.xb h) Tryz.underlying38 rfl (by kernel_rfl)) (by assumption) ?_
          try simp only [Act.put, List.setIfInBounds_toArray, List.set_cons_zero, List.set_cons_succ]
          refine takeAt 5 (v := ?_) rfl rfl (by kernel_rfl) (by kernel_rfl) (by kernel_rfl) (fun _ _ _ h => h) (Or.inl ⟨by rfl, (by intro w hSw; (try dsimp only at hSw); go_simp; try with_reducible rfl)⟩) (by assumption) ?_
          try simp only [Act.put, List.setIfInBounds_toArray, List.set_cons_zero, List.set_cons_succ]
          refine takeAt 6 (v := ?_) rfl rfl (by kernel_rfl) (by kernel_rfl) (by kernel_rfl) (fun _ _ _ h => h) (Or.inl ⟨by rfl, (by intro w hSw; (try dsimp only at hSw); go_simp; try with_reducible rfl)⟩) (by assumption) ?_
          try simp only [Act.put, List.setIfInBounds_toArray, List.set_cons_zero, List.set_cons_succ]
          refine takeAt 7 (v := ?_) rfl rfl (by kernel_rfl) (by kernel_rfl) (by kernel_rfl) (fun _ _ _ h => h) (Or.inl ⟨by rfl, (by intro w hSw; (try dsimp only at hSw); go_simp; try with_reducible rfl)⟩) (by assumption) ?_
          try simp only [Act.put, List.setIfInBounds_toArray, List.set_cons_zero, List.set_cons_succ]
          refine takeAt 8 rfl rfl (by kernel_rfl) (by kernel_rfl) (by kernel_rfl) (fun _ _ _ h => h) (yields_row (by rfl) 38 _ (by rfl) b (by rfl) 38 X.vs (0, 0) _ (fun _ h => BAt.xb h) Tryz.underlying38 rfl (by kernel_rfl)) (by assumption) ?_
          try simp only [Act.put, List.setIfInBounds_toArray, List.set_cons_zero, List.set_cons_succ]
          refine wpAnyH_ready (rs := [4]) (by kernel_rfl) (by simp) (AllReadyH.cons rfl (fun K hK => ?_) AllReadyH.nil)
          go_simp
          go_at_call 14
          refine (HF1.out _ _ (by assumption)).mono ?_
          rintro e w2 ⟨rfl, hb2⟩
          have HS := Lib.hid (BAt.step (by assumption) hb2)
          clear hb2
          go_wp2_with fail
          refine hK.out _ _ HS.out (fun hHeld => ?_)
          clear hK K
          try simp only [Act.put, List.setIfInBounds_toArray, List.set_cons_zero, List.set_cons_succ]
          refine wpAnyH_ready (rs := [9]) (by kernel_rfl) (by simp) (AllReadyH.cons rfl (fun K hK => ?_) AllReadyH.nil)
          go_simp
          go_at_call 15
          refine (HF2.out _ _ (by assumption)).mono ?_
          rintro e w2 ⟨rfl, hb2⟩
          have HS := Lib.hid (BAt.step (by assumption) hb2)
          clear hb2
          go_wp2_with fail
          refine hK.out _ _ HS.out (fun hHeld => ?_)
          clear hK K
          try simp only [Act.put, List.setIfInBounds_toArray, List.set_cons_zero, List.set_cons_succ]
          refine takeAt 10 (v := ?_) rfl rfl (by kernel_rfl) (by kernel_rfl) (by kernel_rfl) (fun _ _ _ h => h) (Or.inl ⟨by rfl, (by intro w hSw; (try dsimp only at hSw); go_simp; try with_reducible rfl)⟩) (by assumption) ?_
          try simp only [Act.put, List.setIfInBounds_toArray, List.set_cons_zero, List.set_cons_succ]
          refine wpAnyH_done (by kernel_rfl) ?_ _
          go_wp2
          go_roundg (gk - 1)
          case measure => omega
          case rel => exact ⟨k + 1, by omega, by go_num, (by assumption)⟩
        · go_wp2_with (first | (go_at_call 16; refine (c_awake _).mono ?_; rintro e w9 ⟨rfl, hb⟩; have HB9 := Lib.hid (HA.out.step hb); clear hb))
          go_ret
          exact ⟨rfl, HB9.out.below⟩
end Go.Proofs.YtnbfenapnfbmeaaGreat
