/- Contracts: a rule is removed from a list (the program and the reference). -/
import Derived.Test.YtnbfenapnfbmeaaGreatF3
set_option linter.unusedSimpArgs false
set_option linter.unusedVariables false
namespace Go.Proofs.YtnbfenapnfbmeaaGreat
open Go.RowKit
theorem step_append_row {P : Program} {w : World} {ops : Array Oper} {o : Oper} {a : Act} {K : Act → World → Prop} {Q : Exit → Act → World → Prop} {E : Prop} (hgd : o.guard = none) (s x : Operand) (t : TypeId)
    (ho : o.op = .call { callee := .builtin .append, args := #[s, x], argTypes := #[t, t] })
    (e : TypeId) (i : TypeInfo) (z : Value) (sz bytes : Nat) (ht : P.underlying t = some (.slice e)) (hi : P.info? e = some i) (hz : i.zero = some z)
    (hsize : i.size = sz) (hby : i.bytes = bytes) (hzs : z.cells.size = sz) (hsz : 0 < sz) (B : Nat) (v : Value) (n : Nat) (ys : List Value) (hs : a.eval s = v) (hown : w.ownsRow B e sz v n ys)
    {α : Type} (enc : α → List Value) (xs : List α) (henc : ∀ x, (enc x).length = sz) (hone : ∀ x, ∀ u ∈ enc x, u.oneCell' = true)
    (aa : Option Addr) (m c : Nat) (hm : xs.length = m) (hx : a.eval x = .slice aa m c) (hnil : aa = none → c = 0) (hrow : RowAt w e sz enc aa xs) (h63 : n + m ≤ maxLen) (hbytes : (n + m) * bytes ≤ 140737488355328) (hB : B ≤ w.heap.size)
    (h : ∀ v' w', w'.ownsRow B e sz v' (n + m) (ys ++ xs.flatMap enc) → w.grownBy w' v.ownBlock → K (a.put o.dst v') w') :
    if Region.wanted o (yielded ops a.tmps) = true then Oper.wp P o a w K Q else E := by
  subst hm
  have hw : Region.wanted o (yielded ops a.tmps) = true := by simp [Region.wanted, hgd]
  rw [if_pos hw]
  cases aa with
  | none =>
    have h0 : xs = [] := by
      cases xs with
      | nil => rfl
      | cons y l =>
        obtain ⟨b, off, cs, fz, ha, _⟩ := hrow 0 (by simp)
        cases ha
    subst h0
    have hc := hnil rfl
    subst hc
    have hrun := run_append_owned_none (P := P) (w := w) B t o.type e i sz ht hi v n ys hown
    unfold Oper.wp
    simp only [List.length_nil] at hx
    simp [execOp, ho, resolve, invoke, builtin, hs, hx, hrun, Result.andThen]
    exact h v w (by simpa using hown) ⟨rfl, rfl, rfl, Nat.le_refl _, fun _ _ _ => rfl⟩
  | some ad =>
    exact wp_append_own w s x t ho B e i z sz bytes ht hi hz hsize hby hzs hsz v n ys hs hown ad xs.length c (xs.flatMap enc) hx (flatMap_len enc sz henc xs) (hrow.news hsz henc) (fun u hu => by
      obtain ⟨y, _, hy⟩ := List.mem_flatMap.1 hu
      exact hone y u hy) h63 hbytes hB (fun v' w' hown hg _ => h v' w' hown hg)
def removeCode (rs : List Rule) (r : Rule) : Int := if rulesCheck rs != 0 then rulesCheck rs else if findRule rs r < 0 then 142 else 0
def removeList (rs : List Rule) (r : Rule) : List PRule := if removeCode rs r = 0 then (rs.map Rule.p).eraseIdx (findRule rs r).toNat else []
theorem findIdx_range {α : Type} (p : α → Bool) (k : Nat) (l : List α) : findIdx p k l < 0 ∨ ∃ j : Nat, findIdx p k l = (j : Int) ∧ k ≤ j ∧ j < k + l.length := by
  induction l generalizing k with
  | nil => left; show (-1 : Int) < 0; decide
  | cons x l ih =>
    unfold findIdx
    split
    · right; exact ⟨k, rfl, Nat.le_refl _, by simp⟩
    · rcases ih (k + 1) with h | ⟨j, h1, h2, h3⟩
      · left; exact h
      · right; exact ⟨j, h1, by omega, by simp; omega⟩
theorem RulesAt.drop {w : World} {b o k : Nat} {rs : List Rule} (h : RulesAt w (some ⟨b, o, none⟩) rs) : RulesAt w (some ⟨b, o + k * 8, none⟩) (rs.drop k) := by
  refine ⟨by rw [List.length_drop]; have := h.1; omega, ?_, fun x hx => h.2.2 x (List.mem_of_mem_drop hx)⟩
  intro j hj
  rw [List.length_drop] at hj
  obtain ⟨b', o', cs, fz, ha, hh, hc⟩ := h.2.1 (k + j) (by omega)
  cases ha
  refine ⟨b, o + k * 8, cs, fz, rfl, hh, fun i v hv => ?_⟩
  rw [List.getElem_drop] at hv
  have := hc i v hv
  rw [show o + k * 8 + j * 8 + i = o + (k + j) * 8 + i by rw [Nat.add_mul]; omega]
  exact this
theorem c_del (B n : Nat) (a : Option Addr) (rs : List Rule) (i : Nat) (w : World) (hn : rs.length = n) (hi : i < n) (hl : n ≤ 1000) (h : RulesOwn w B (.slice a n n) rs) :
    Calls Tryz.prog 52 #[.slice a n n, .int .i64 i, .int .i64 ((i : Int) + 1)] w (InsPost w B (rs.eraseIdx i)) := by
  subst hn
  rcases h.2.1.2 with ⟨he, hn⟩ | ⟨g, cap, cur, he, hb, hg, _⟩
  · omega
  · cases he
    exact c_delete B g rs i w hi hl h
set_option maxRecDepth 100000 in
set_option maxHeartbeats 4000000 in
theorem c_premove (a : Option Addr) (c : Nat) (rs : List Rule) (r : Rule) (w : World) (hl : RulesAt w a rs) (hc : rs.length ≤ c) (hr : RuleAt w r) :
    Calls Tryz.prog 20 #[.slice a rs.length c, r.v] w (ListPost w (removeList rs r) (removeCode rs r)) := by
  have hl1 := hl.1
  have HL := Lib.hid hl
  have HR := Lib.hid hr
  have HC := Lib.hid hc
  clear hl hr hc
  have HA := Lib.hid (BoxAt.new w r)
  have hcode : removeCode rs r = if rulesCheck rs != 0 then rulesCheck rs else if findRule rs r < 0 then 142 else 0 := rfl
  have hlist : removeList rs r = if removeCode rs r = 0 then (rs.map Rule.p).eraseIdx (findRule rs r).toNat else [] := rfl
  have hfr := findIdx_range (fun x => ruleEq x r) 0 rs
  change findRule rs r < 0 ∨ ∃ j : Nat, findRule rs r = (j : Int) ∧ 0 ≤ j ∧ j < 0 + rs.length at hfr
  rcases (by cases rulesCheck rs != 0 <;> simp : (rulesCheck rs != 0) = true ∨ (rulesCheck rs != 0) = false) with q1 | q1
  · have HD := Lib.hid (show removeCode rs r = rulesCheck rs by rw [hcode]; rw [if_pos q1])
    have HLIST := Lib.hid (show removeList rs r = [] by rw [hlist, HD.out, if_neg (by simpa using q1)])
    clear hcode hlist hfr
    go_enter Tryz.func20, Tryz.ntmps20
    go_wp2_with (go_at_call 25; refine (c_check a c rs _ (HL.out.below HA.out.below (Nat.le_refl _)) HC.out).mono ?_; rintro e w' ⟨rfl, hb'⟩; have HA' := Lib.hid (HA.out.step hb'); clear HA hb'; have HA := HA'; clear HA')
    go_ret2
    exact ⟨.slice none 0 0, [], (by rw [HD.out]; rfl), RulesOwn.nil _ _, HLIST.out.symm, HA.out.below⟩
  · have q6 := len_of_check rs (by simpa using q1)
    rcases hfr with q3 | ⟨k, hk, _, hkl⟩
    · have HD := Lib.hid (show removeCode rs r = 142 by rw [hcode]; rw [if_neg (by simp [q1]), if_pos q3])
      have HLIST := Lib.hid (show removeList rs r = [] by rw [hlist, HD.out, if_neg (by decide)])
      clear hcode hlist
      go_enter Tryz.func20, Tryz.ntmps20
      go_wp2_with (first
        | (go_at_call 25; refine (c_check a c rs _ (HL.out.below HA.out.below (Nat.le_refl _)) HC.out).mono ?_; rintro e w' ⟨rfl, hb'⟩; have HA' := Lib.hid (HA.out.step hb'); clear HA hb'; have HA := HA'; clear HA'; obtain ⟨k0, k1, k2, k3, k4, k5, k6, k7⟩ := HA.out.cells)
        | (go_at_call 23; refine (c_pfind a c rs r _ (HL.out.below HA.out.below (Nat.le_refl _)) (HR.out.below HA.out.below (Nat.le_refl _))).mono ?_; rintro e w' ⟨rfl, hb'⟩; have HA' := Lib.hid (HA.out.step hb'); clear HA hb'; have HA := HA'; clear HA'))
      go_ret2
      exact ⟨.slice none 0 0, [], (by rw [HD.out]; rfl), RulesOwn.nil _ _, HLIST.out.symm, HA.out.below⟩
    · have HD := Lib.hid (show removeCode rs r = 0 by rw [hcode]; rw [if_neg (by simp [q1]), if_neg (by omega)])
      have HLIST := Lib.hid (show removeList rs r = (rs.map Rule.p).eraseIdx k by rw [hlist, HD.out, if_pos rfl, hk]; rfl)
      have HK := Lib.hid hk
      have hk0 : ¬ (k : Int) < 0 := by omega
      clear hcode hlist
      go_enter Tryz.func20, Tryz.ntmps20
      go_wp2_with (first
        | (go_at_call 25; refine (c_check a c rs _ (HL.out.below HA.out.below (Nat.le_refl _)) HC.out).mono ?_; rintro e w' ⟨rfl, hb'⟩; have HA' := Lib.hid (HA.out.step hb'); clear HA hb'; have HA := HA'; clear HA'; obtain ⟨k0, k1, k2, k3, k4, k5, k6, k7⟩ := HA.out.cells)
        | (go_at_call 23; refine (c_pfind a c rs r _ (HL.out.below HA.out.below (Nat.le_refl _)) (HR.out.below HA.out.below (Nat.le_refl _))).mono ?_; rw [hk]; rintro e w' ⟨rfl, hb'⟩; have HA' := Lib.hid (HA.out.step hb'); clear HA hb'; have HA := HA'; clear HA')
        | (go_at_call 47; refine (c_ownRules a c rs _ (HL.out.below HA.out.below (Nat.le_refl _))).mono ?_; rintro e w2 ⟨a2, rs2, rfl, hn2, ho2, hp2, hb2⟩; have hlc : rs2.length = rs.length := (by have := congrArg List.length hp2; simpa using this); rw [hlc] at ho2 ⊢; have HA2 := Lib.hid (HA.out.step hb2); have HO2 := Lib.hid (ho2.base HA.out.below.size); have HP2 := Lib.hid hp2; have HLC := Lib.hid hlc; clear ho2 hp2 hb2 hlc hn2)
        | (go_at_call 52; refine (c_del w.heap.size rs.length a2 rs2 k _ HLC.out (by omega) (by omega) HO2.out).mono ?_; rintro e w4 ⟨a4, c4, rfl, ho4, hb4⟩; have HO4 := Lib.hid ho4; have HB4 := Lib.hid hb4; clear ho4 hb4))
      go_ret2
      refine ⟨_, rs2.eraseIdx k, (by rw [HD.out]; rfl), HO4.out, ?_, HA2.out.below.trans HB4.out⟩
      rw [HLIST.out, ← HP2.out, List.eraseIdx_eq_take_drop_succ, List.eraseIdx_eq_take_drop_succ, List.map_append, List.map_take, List.map_drop]
set_option maxRecDepth 100000 in
set_option maxHeartbeats 4000000 in
theorem c_rremove (a : Option Addr) (c : Nat) (rs : List Rule) (r : Rule) (w : World) (hl : RulesAt w a rs) (hc : rs.length ≤ c) (hnil : a = none → c = 0) (hr : RuleAt w r) :
    Calls Tryz.prog 21 #[.slice a rs.length c, r.v] w (ListPost w (removeList rs r) (removeCode rs r)) := by
  have hl1 := hl.1
  have HL := Lib.hid hl
  have HR := Lib.hid hr
  have HC := Lib.hid hc
  clear hl hr hc
  have HA := Lib.hid (BoxAt.new w r)
  have hcode : removeCode rs r = if rulesCheck rs != 0 then rulesCheck rs else if findRule rs r < 0 then 142 else 0 := rfl
  have hlist : removeList rs r = if removeCode rs r = 0 then (rs.map Rule.p).eraseIdx (findRule rs r).toNat else [] := rfl
  have hfr := findIdx_range (fun x => ruleEq x r) 0 rs
  change findRule rs r < 0 ∨ ∃ j : Nat, findRule rs r = (j : Int) ∧ 0 ≤ j ∧ j < 0 + rs.length at hfr
  rcases (by cases rulesCheck rs != 0 <;> simp : (rulesCheck rs != 0) = true ∨ (rulesCheck rs != 0) = false) with q1 | q1
  · have HD := Lib.hid (show removeCode rs r = rulesCheck rs by rw [hcode]; rw [if_pos q1])
    have HLIST := Lib.hid (show removeList rs r = [] by rw [hlist, HD.out, if_neg (by simpa using q1)])
    clear hcode hlist hfr
    go_enter Tryz.func21, Tryz.ntmps21
    go_wp2_with (go_at_call 26; refine (c_rcheck a c rs _ (HL.out.below HA.out.below (Nat.le_refl _)) HC.out).mono ?_; rintro e w' ⟨rfl, hb'⟩; have HA' := Lib.hid (HA.out.step hb'); clear HA hb'; have HA := HA'; clear HA')
    go_ret2
    exact ⟨.slice none 0 0, [], (by rw [HD.out]; rfl), RulesOwn.nil _ _, HLIST.out.symm, HA.out.below⟩
  · have q6 := len_of_check rs (by simpa using q1)
    rcases hfr with q3 | ⟨k, hk, _, hkl⟩
    · have HD := Lib.hid (show removeCode rs r = 142 by rw [hcode]; rw [if_neg (by simp [q1]), if_pos q3])
      have HLIST := Lib.hid (show removeList rs r = [] by rw [hlist, HD.out, if_neg (by decide)])
      clear hcode hlist
      go_enter Tryz.func21, Tryz.ntmps21
      go_wp2_with (first
        | (go_at_call 26; refine (c_rcheck a c rs _ (HL.out.below HA.out.below (Nat.le_refl _)) HC.out).mono ?_; rintro e w' ⟨rfl, hb'⟩; have HA' := Lib.hid (HA.out.step hb'); clear HA hb'; have HA := HA'; clear HA'; obtain ⟨k0, k1, k2, k3, k4, k5, k6, k7⟩ := HA.out.cells)
        | (go_at_call 24; refine (c_rfind a c rs r _ (HL.out.below HA.out.below (Nat.le_refl _)) (HR.out.below HA.out.below (Nat.le_refl _))).mono ?_; rintro e w' ⟨rfl, hb'⟩; have HA' := Lib.hid (HA.out.step hb'); clear HA hb'; have HA := HA'; clear HA'))
      go_ret2
      exact ⟨.slice none 0 0, [], (by rw [HD.out]; rfl), RulesOwn.nil _ _, HLIST.out.symm, HA.out.below⟩
    · have HD := Lib.hid (show removeCode rs r = 0 by rw [hcode]; rw [if_neg (by simp [q1]), if_neg (by omega)])
      have HLIST := Lib.hid (show removeList rs r = (rs.map Rule.p).eraseIdx k by rw [hlist, HD.out, if_pos rfl, hk]; rfl)
      have HK := Lib.hid hk
      have hk0 : ¬ (k : Int) < 0 := by omega
      clear hcode hlist
      go_enter Tryz.func21, Tryz.ntmps21
      go_wp2_with (first
        | (go_at_call 26; refine (c_rcheck a c rs _ (HL.out.below HA.out.below (Nat.le_refl _)) HC.out).mono ?_; rintro e w' ⟨rfl, hb'⟩; have HA' := Lib.hid (HA.out.step hb'); clear HA hb'; have HA := HA'; clear HA'; obtain ⟨k0, k1, k2, k3, k4, k5, k6, k7⟩ := HA.out.cells)
        | (go_at_call 24; refine (c_rfind a c rs r _ (HL.out.below HA.out.below (Nat.le_refl _)) (HR.out.below HA.out.below (Nat.le_refl _))).mono ?_; rw [hk]; rintro e w' ⟨rfl, hb'⟩; have HA' := Lib.hid (HA.out.step hb'); clear HA hb'; have HA := HA'; clear HA'))
      obtain ⟨b, o, ha, _⟩ := HL.out.at HA.out.below k (by omega)
      subst ha
      obtain ⟨i0, hi, hz0, hz1, hz2⟩ := info_parts info_rule
      have HI := Lib.hid hi
      clear hi
      have hkc : (k : Int) ≤ (c : Int) := by have := HC.out; omega
      have hkc2 : (k : Int) + 1 ≤ (c : Int) := by have := HC.out; omega
      have hkn : (k : Int) + 1 ≤ (rs.length : Int) := by omega
      have HLT := Lib.hid (HL.out.take k)
      have HLD := Lib.hid (HL.out.drop (k := k + 1))
      have HT1 := Lib.hid (show (rs.take k).length = k by rw [List.length_take]; omega)
      have HT2 := Lib.hid (show (rs.drop (k + 1)).length = rs.length - (k + 1) by rw [List.length_drop])
      have hc1 : ∀ W, Below w.heap.size w W → Calls Tryz.prog 51 #[.slice (some ⟨b, o, none⟩) k c] W (CopiesPost W (rs.take k)) := fun W hb => by
        have := c_copy (some ⟨b, o, none⟩) c (rs.take k) W (HLT.out.below hb (Nat.le_refl _))
        rw [HT1.out] at this
        exact this
      have fin : ∀ (w3 w4 : World) (rs2 rs3 : List Rule) (v v4 : Value), RulesOwn w3 w.heap.size v rs2 → (∀ x ∈ rs3, RuleAt w3 x) → Below w.heap.size w w3 → w3.grownBy w4 v.ownBlock → w4.ownsRow w.heap.size tRule 8 v4 (rs2.length + rs3.length) (rs2.flatMap Rule.cells ++ rs3.flatMap Rule.cells) → rs2.map Rule.p = (rs.take k).map Rule.p → rs3.map Rule.p = (rs.drop (k + 1)).map Rule.p → ListPost w (removeList rs r) (removeCode rs r) (.returned (.tuple #[v4, .int .i64 0])) w4 := by
        intro w3 w4 rs2 rs3 v v4 ho2 hr3 hb3 hg4 hown4 hp2 hp3
        have hk4 : Keeps tTest w3 w4 := Keeps.own ho2.2.1 hg4
        have l2 : rs2.length = k := by have := congrArg List.length hp2; simp at this; omega
        have l3 : rs3.length = rs.length - (k + 1) := by have := congrArg List.length hp3; simpa using this
        refine ⟨v4, rs2 ++ rs3, by rw [HD.out], ⟨by rw [List.length_append]; omega, ?_, ?_⟩, ?_, below_own ho2.2.1 hg4 hb3 hb3.size⟩
        · unfold OwnRow
          rw [List.length_append, List.flatMap_append]
          exact hown4
        · intro x hx
          rcases List.mem_append.1 hx with h | h
          · exact (ho2.2.2 x h).keep hk4
          · exact (hr3 x h).keep hk4
        · rw [HLIST.out, List.map_append, hp2, hp3, List.eraseIdx_eq_take_drop_succ, List.map_take, List.map_drop]
      have HF := Lib.hid fin
      have hcs : ∃ o2 : Nat, o2 = (if c = k + 1 then o else o + (k + 1) * 8) ∧ ∀ W, Below w.heap.size w W → Calls Tryz.prog 51 #[.slice (some ⟨b, o2, none⟩) (rs.length - (k + 1)) (c - (k + 1))] W (CopiesPost W (rs.drop (k + 1))) := by
        refine ⟨_, rfl, fun W hb => ?_⟩
        split
        · have hz : rs.drop (k + 1) = [] := List.drop_eq_nil_of_le (by have := HC.out; omega)
          have := c_copy (some ⟨b, o, none⟩) (c - (k + 1)) [] W ⟨by simp, fun j hj => by simp at hj, by simp⟩
          rw [hz, show rs.length - (k + 1) = 0 by have := HC.out; omega]
          exact this
        · have := c_copy (some ⟨b, o + (k + 1) * 8, none⟩) (c - (k + 1)) (rs.drop (k + 1)) W (HLD.out.below hb (Nat.le_refl _))
          rw [HT2.out] at this
          exact this
      obtain ⟨o2, ho2, hc2⟩ := hcs
      clear k0 k1 k2 k3 k4 k5 k6 k7
      have hkk : (k : Int) ≤ (k : Int) + 1 := by omega
      have hkz : (0 : Int) ≤ (k : Int) + 1 := by omega
      have hwr : IntKind.i64.wrap ((k : Int) + 1) = (k : Int) + 1 := by rw [IntKind.wrap_i64]; omega
      by_cases hce : c = k + 1
      · rw [if_pos hce] at ho2
        subst ho2
        subst hce
        rw [Nat.sub_self] at hc2
        have HC1 := Lib.hid hc1
        have HC2 := Lib.hid hc2
        clear hc1 hc2 fin
        go_region_law (first
          | (go_simp; go_at_call 51; refine (HC2.out _ HB2.out).mono ?_; rintro e w3 ⟨v3, rs3, rfl, ho3, hp3, hb3⟩; have hl3 := ho3.1; obtain ⟨a3, c3, rfl, hn3, hat3⟩ := ho3.shape; have HB3 := Lib.hid (HB2.out.trans (hb3.mono HB2.out.size)); have HO3 := Lib.hid (HO2.out.below hb3 (Nat.le_refl _)); have hl2 := HO2.out.1; have HP3 := Lib.hid hp3; have HN3 := Lib.hid hn3; have HT3 := Lib.hid hat3; clear ho3 hp3 hb3 hn3 hat3)
          | (go_simp; go_at_call 51; refine (HC1.out _ HA.out.drew.below).mono ?_; rintro e w2 ⟨v2, rs2, rfl, ho2, hp2, hb2⟩; obtain ⟨a2, c2, rfl, hn2, _⟩ := ho2.shape; have HB2 := Lib.hid (HA.out.drew.below.trans (hb2.mono HA.out.drew.below.size)); have HO2 := Lib.hid (ho2.base HA.out.drew.below.size); have HP2 := Lib.hid hp2; clear ho2 hp2 hb2 hn2)
          | (refine step_append_row (by rfl) _ _ 25 (by rfl) tRule i0 _ 8 96 Tryz.underlying25 HI.out hz0 hz1 hz2 rfl (by decide) w.heap.size (.slice a2 rs2.length c2) rs2.length (rs2.flatMap Rule.cells) (by rfl) HO3.out.2.1 Rule.cells rs3 (fun _ => rfl) one_rule a3 rs3.length c3 rfl (by rfl) HN3.out HT3.out.2.1 (by unfold maxLen; omega) (by omega) HB3.out.size ?_; intro v4 w4 hown4 hg4; have HO4 := Lib.hid hown4; have HG4 := Lib.hid hg4; clear hown4 hg4))
        all_goals
          go_wp2
          go_ret2
          exact HF.out w3 w4 rs2 rs3 _ _ HO3.out HT3.out.2.2 HB3.out HG4.out HO4.out HP2.out HP3.out
      · rw [if_neg hce] at ho2
        subst ho2
        have HC1 := Lib.hid hc1
        have HC2 := Lib.hid hc2
        clear hc1 hc2 fin
        go_region_law (first
          | (go_simp; go_at_call 51; refine (HC2.out _ HB2.out).mono ?_; rintro e w3 ⟨v3, rs3, rfl, ho3, hp3, hb3⟩; have hl3 := ho3.1; obtain ⟨a3, c3, rfl, hn3, hat3⟩ := ho3.shape; have HB3 := Lib.hid (HB2.out.trans (hb3.mono HB2.out.size)); have HO3 := Lib.hid (HO2.out.below hb3 (Nat.le_refl _)); have hl2 := HO2.out.1; have HP3 := Lib.hid hp3; have HN3 := Lib.hid hn3; have HT3 := Lib.hid hat3; clear ho3 hp3 hb3 hn3 hat3)
          | (go_simp; go_at_call 51; refine (HC1.out _ HA.out.drew.below).mono ?_; rintro e w2 ⟨v2, rs2, rfl, ho2, hp2, hb2⟩; obtain ⟨a2, c2, rfl, hn2, _⟩ := ho2.shape; have HB2 := Lib.hid (HA.out.drew.below.trans (hb2.mono HA.out.drew.below.size)); have HO2 := Lib.hid (ho2.base HA.out.drew.below.size); have HP2 := Lib.hid hp2; clear ho2 hp2 hb2 hn2)
          | (refine step_append_row (by rfl) _ _ 25 (by rfl) tRule i0 _ 8 96 Tryz.underlying25 HI.out hz0 hz1 hz2 rfl (by decide) w.heap.size (.slice a2 rs2.length c2) rs2.length (rs2.flatMap Rule.cells) (by rfl) HO3.out.2.1 Rule.cells rs3 (fun _ => rfl) one_rule a3 rs3.length c3 rfl (by rfl) HN3.out HT3.out.2.1 (by unfold maxLen; omega) (by omega) HB3.out.size ?_; intro v4 w4 hown4 hg4; have HO4 := Lib.hid hown4; have HG4 := Lib.hid hg4; clear hown4 hg4))
        all_goals
          go_wp2
          go_ret2
          exact HF.out w3 w4 rs2 rs3 _ _ HO3.out HT3.out.2.2 HB3.out HG4.out HO4.out HP2.out HP3.out
end Go.Proofs.YtnbfenapnfbmeaaGreat
