/- Contracts: a field by its number, and the test's check. -/
import Derived.Test.YtnbfenapnfbmeaaGreatE2
set_option linter.unusedSimpArgs false
set_option linter.unusedVariables false
namespace Go.Proofs.YtnbfenapnfbmeaaGreat
open Go.RowKit
theorem extract4 {cs : Array Value} {o : Nat} {a b c d : Value} (h0 : cs[o]? = some a) (h1 : cs[o + 1]? = some b) (h2 : cs[o + 2]? = some c) (h3 : cs[o + 3]? = some d) : cs.extract o (o + 4) = #[a, b, c, d] := by
  have hs : o + 3 < cs.size := (Array.getElem?_eq_some_iff.1 h3).1
  apply Array.ext
  · simp; omega
  · intro i hi hj
    have hi4 : i < 4 := by simpa using hj
    rw [Array.getElem_extract]
    have : i = 0 ∨ i = 1 ∨ i = 2 ∨ i = 3 := by omega
    rcases this with rfl | rfl | rfl | rfl
    · exact (Array.getElem?_eq_some_iff.1 h0).2
    · exact (Array.getElem?_eq_some_iff.1 h1).2
    · exact (Array.getElem?_eq_some_iff.1 h2).2
    · exact (Array.getElem?_eq_some_iff.1 h3).2
theorem run_index_array (P : Program) (w : World) (t e : TypeId) (n : Nat) (cs : Array Value) (i : Nat) (a b c d : Value) (h : P.underlying t = some (.array n e)) (hu' : (match P.underlying e with | some (.struct _) => true | _ => false) = true) (hs : (P.info? e).map (·.size) = some 4) (hi : i < n)
    (h0 : cs[i * 4]? = some a) (h1 : cs[i * 4 + 1]? = some b) (h2 : cs[i * 4 + 2]? = some c) (h3 : cs[i * 4 + 3]? = some d) :
    (Instr.index t (.agg cs) (.int .i64 i)).run P w = .ok (.agg #[a, b, c, d]) w := by
  obtain ⟨fs, hu⟩ : ∃ fs, P.underlying e = some (.struct fs) := by
    revert hu'
    split
    · intro _; exact ⟨_, by assumption⟩
    · intro h; cases h
  cases hie : P.info? e with
  | none => simp [hie] at hs
  | some ie =>
    have hs4 : ie.size = 4 := by simpa [hie] using hs
    simp [Instr.index, run_underlying h, asIntOf, hi, go_sem, sizeOf, typeInfo, hie, hs4, isAgg, run_underlying hu, Sem.run_bind, extract4 h0 h1 h2 h3]
theorem FieldR.kept {b : Nat} {w W : World} {i : Nat} {num text item : Value} (h : FieldR b w i num text item) (k : Kept b w W) : FieldR b W i num text item :=
  ⟨h.1, h.2.1, fun h1 h2 => ⟨(h.2.2 h1 h2).1, (h.2.2 h1 h2).2.1, (h.2.2 h1 h2).2.2.kept k⟩⟩
/-- What known answers. -/
def KnownR (b : Nat) (w : World) (f : Int) (num text item : Value) (ok : Bool) : Prop :=
  (1 ≤ f ∧ f ≤ 22 → ok = true ∧ FieldR b w f.toNat num text item) ∧ (¬ (1 ≤ f ∧ f ≤ 22) → ok = false ∧ num = .nilFunc ∧ text = .nilFunc ∧ item = .nilFunc)
def KnownPost (f : Int) (w : World) (e : Ending) (w' : World) : Prop := ∃ nm num text item ok b, e = .returned (.tuple #[.agg #[.string nm, num, text, item], .bool ok]) ∧ KnownR b w' f num text item ok ∧ Below w.heap.size w w'
theorem results_cell_tmp {P : Program} {fn : Func} {tmps : Array Value} {w : World} {i t g k : Nat} {v u : Value} (hr : fn.results = #[.cell i t, .tmp k]) (ht : tmps.getD i undef = .pointer (some ⟨g, 0, none⟩)) (hl : (loadVar t ⟨g, 0, none⟩).run P w = .ok v w) (hk : tmps.getD k undef = u) : (results fn tmps).run P w = .ok (.tuple #[v, u]) w := by
  have ht' : tmps[i]?.getD undef = .pointer (some ⟨g, 0, none⟩) := by simpa using ht
  have hk' : tmps[k]?.getD undef = u := by simpa using hk
  simp [results, hr, ht', hk', hl, asAddr]
theorem FieldR.shape {b : Nat} {w : World} {i : Nat} {num text item : Value} (h : FieldR b w i num text item) :
    (num = .nilFunc ∧ item = .nilFunc ∧ ∃ g, text = .func (.func g) #[] #[]) ∨ (num = .nilFunc ∧ text = .nilFunc ∧ ∃ g, item = .func (.func g) #[] #[]) ∨ (text = .nilFunc ∧ item = .nilFunc ∧ ∃ g bs, num = .func (.func g) #[] bs) := by
  by_cases h1 : i = 13 ∨ i = 14
  · obtain ⟨a, b, g, c, _⟩ := h.1 h1
    exact .inl ⟨a, b, g, c⟩
  · by_cases h2 : 17 ≤ i ∧ i ≤ 21
    · obtain ⟨a, b, g, c, _⟩ := h.2.1 h2
      exact .inr (.inl ⟨a, b, g, c⟩)
    · obtain ⟨a, b, g, bs, c, _⟩ := h.2.2 h1 h2
      exact .inr (.inr ⟨a, b, g, bs, c⟩)
set_option maxRecDepth 100000 in
set_option maxHeartbeats 1000000 in
theorem c_known (f : Int) (w : World) :
    Calls Tryz.prog 61 #[.int .i64 f] w (KnownPost f w) := by
  have HN := Lib.hid (heap_new w (Obj.cells #[.string ⟨#[]⟩, .nilFunc, .nilFunc, .nilFunc] 98))
  have HB := Lib.hid ((Below.refl w.heap.size w).alloc (Nat.le_refl _) (Obj.cells #[.string ⟨#[]⟩, .nilFunc, .nilFunc, .nilFunc] 98))
  have fin : ∀ (W : World) (vs : Array Value), vs.size = 4 → W.heap[w.heap.size]? = some (.cells vs 98 (0, 0)) → (loadVar 98 ⟨w.heap.size, 0, none⟩).run Tryz.prog W = .ok (.agg vs) W := fun W vs hs hg =>
    run_loadVar_row _ _ 98 98 vs (0, 0) (hg := hg) (d := .struct (Tryz.prog.fieldsOf 98)) (hu := by kernel_rfl) (hd := rfl) (hi := by rw [hs]; kernel_rfl)
  have FIN := Lib.hid fin
  clear fin
  have out : ¬ (1 ≤ f ∧ f ≤ 22) → ∀ (e : Ending) (w' : World), e = .returned (.tuple #[.agg #[.string ⟨#[]⟩, .nilFunc, .nilFunc, .nilFunc], .bool false]) → Below w.heap.size w w' → KnownPost f w e w' :=
    fun h e w' he hb => ⟨_, _, _, _, _, 0, he, ⟨fun k => absurd k h, fun _ => ⟨rfl, rfl, rfl, rfl⟩⟩, hb⟩
  have OUT := Lib.hid out
  clear out
  by_cases h1 : f < 1
  · go_enter Tryz.func61, Tryz.ntmps61
    go_wp2_with (first | (refine wpList_store_row (by rfl) 98 _ _ (by rfl) w.heap.size #[.string ⟨#[]⟩, .nilFunc, .nilFunc, .nilFunc] (by rfl) (by rfl) 98 #[.string ⟨#[]⟩, .nilFunc, .nilFunc, .nilFunc] HN.out (by kernel_rfl) rfl (by kernel_rfl) ?_))
    have HL := FIN.out ((w.alloc (Obj.cells #[.string ⟨#[]⟩, .nilFunc, .nilFunc, .nilFunc] 98)).setRow w.heap.size #[.string ⟨#[]⟩, .nilFunc, .nilFunc, .nilFunc]) _ rfl (setRow_heap _ _ _ _ 98 (0, 0) HN.out)
    refine bodyPost_ret (v := .tuple #[.agg #[.string ⟨#[]⟩, .nilFunc, .nilFunc, .nilFunc], .bool false]) (results_cell_tmp (i := 2) (k := 3) (by kernel_rfl) (by rfl) HL (by rfl)) rfl ?_
    exact OUT.out (by omega) _ _ rfl (bset HB.out (Nat.le_refl _) _)
  · by_cases h2 : 22 < f
    · go_enter Tryz.func61, Tryz.ntmps61
      go_wp2_with (first | (refine wpList_store_row (by rfl) 98 _ _ (by rfl) w.heap.size #[.string ⟨#[]⟩, .nilFunc, .nilFunc, .nilFunc] (by rfl) (by rfl) 98 #[.string ⟨#[]⟩, .nilFunc, .nilFunc, .nilFunc] HN.out (by kernel_rfl) rfl (by kernel_rfl) ?_))
      have HL := FIN.out ((w.alloc (Obj.cells #[.string ⟨#[]⟩, .nilFunc, .nilFunc, .nilFunc] 98)).setRow w.heap.size #[.string ⟨#[]⟩, .nilFunc, .nilFunc, .nilFunc]) _ rfl (setRow_heap _ _ _ _ 98 (0, 0) HN.out)
      refine bodyPost_ret (v := .tuple #[.agg #[.string ⟨#[]⟩, .nilFunc, .nilFunc, .nilFunc], .bool false]) (results_cell_tmp (i := 2) (k := 3) (by kernel_rfl) (by rfl) HL (by rfl)) rfl ?_
      exact OUT.out (by omega) _ _ rfl (bset HB.out (Nat.le_refl _) _)
    · obtain ⟨i, rfl⟩ : ∃ i : Nat, f = i := ⟨f.toNat, by omega⟩
      go_enter Tryz.func61, Tryz.ntmps61
      go_wp2_with (first
                         | (go_at_call 83; refine (c_fields _).mono ?_; rintro e w' ⟨v, rfl, ⟨vs, rfl, hsz, hat⟩, hb'⟩
                            obtain ⟨nm, num, text, item, e0, e1, e2, e3, hf⟩ := hat i (by omega) (by omega)
                            have hrun := run_index_array Tryz.prog w' 119 98 23 vs i _ _ _ _ (by kernel_rfl) (by kernel_rfl) (by kernel_rfl) (by omega) e0 e1 e2 e3
                            have hsh := hf.shape
                            replace hf := Lib.hid hf
                            have hst := Lib.hid ((hb'.block w.heap.size (lt_of_some HN.out)).trans HN.out)
                            replace hb' := Lib.hid hb'
                            clear e0 e1 e2 e3 hat hsz
                            rcases hsh with ⟨rfl, rfl, g, rfl⟩ | ⟨rfl, rfl, g, rfl⟩ | ⟨rfl, rfl, g, bs, rfl⟩)
                         | (refine wpList_store_row (by rfl) 98 _ _ (by rfl) w.heap.size #[_, _, _, _] (by rfl) (by rfl) 98 #[.string ⟨#[]⟩, .nilFunc, .nilFunc, .nilFunc] hst.out (by kernel_rfl) (by rfl) (by kernel_rfl) ?_))
      all_goals
        refine bodyPost_ret (v := .tuple #[.agg #[_, _, _, _], .bool true]) (results_cell_tmp (i := 2) (k := 3) (by kernel_rfl) (by rfl) (FIN.out _ _ (by rfl) (setRow_heap _ _ _ _ 98 (0, 0) hst.out)) (by rfl)) rfl ?_
        exact ⟨nm, _, _, _, true, _, rfl, ⟨fun _ => ⟨rfl, by simpa using hf.out.kept (Kept.setRow' (Kept.refl _ _) w.heap.size _ (by simp; omega))⟩, fun k => absurd ⟨by omega, by omega⟩ k⟩, bset (HB.out.trans (hb'.out.mono (by simp))) (Nat.le_refl _) _⟩
end Go.Proofs.YtnbfenapnfbmeaaGreat
