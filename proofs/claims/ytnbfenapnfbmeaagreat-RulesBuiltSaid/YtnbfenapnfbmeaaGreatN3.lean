/- Contracts: clean paths (the reference). -/
import Derived.Test.YtnbfenapnfbmeaaGreatN2
import Derived.Laws.Concat
set_option linter.unusedSimpArgs false
set_option linter.unusedVariables false
namespace Go.Proofs.YtnbfenapnfbmeaaGreat
open Go.RowKit
theorem strs_at {w wr : World} {a : Option Addr} {ps : List ByteArray} (h : RowAt w tStr 1 strCells a ps) (hk : Keeps tStr w wr) (k : Nat) (hlt : k < ps.length) : ∃ b off, a = some ⟨b, off, none⟩ ∧ wr.cell? ⟨b, off + k, none⟩ = some (.string ps[k]) := by
  obtain ⟨b, off, cs, fz, ha, hh, hc⟩ := h k hlt
  refine ⟨b, off, ha, ?_⟩
  rw [World.cell?]
  simp only [hk b cs fz hh]
  have := hc 0 (.string ps[k]) rfl
  simpa using this
theorem nameB_len (l : List UInt8) (h : nameB l = true) : l.length ≤ 12 := by
  simp [nameB] at h
  omega
theorem join_step (t p : ByteArray) (ps : List ByteArray) (k : Nat) (hk : k < ps.length) (hp : ps[k] = p) (ht : t.toList = joinB ((ps.take k).map ByteArray.toList)) : (t ++ ((⟨#[47]⟩ : ByteArray) ++ p)).toList = joinB ((ps.take (k + 1)).map ByteArray.toList) := by
  have e1 : (t ++ ((⟨#[47]⟩ : ByteArray) ++ p)).toList = t.toList ++ 47 :: p.toList := by
    simp [ByteArray.toList_eq, ByteArray.data_append]
  rw [e1, ht, List.take_succ_eq_append_getElem hk, hp]
  simp [joinB]
theorem cutAt_len (c : UInt8) (l p : List UInt8) (h : p ∈ cutAt c l) : p.length ≤ l.length := by
  induction l generalizing p with
  | nil => simp [cutAt] at h; simp [h]
  | cons x l ih =>
    rw [cutAt] at h
    split at h
    · rcases List.mem_cons.1 h with rfl | h
      · simp
      · have := ih p h; simp; omega
    · cases hc : cutAt c l with
      | nil => exact absurd hc (cutAt_ne _ _)
      | cons q qs =>
        rw [hc] at h
        simp only at h
        rcases List.mem_cons.1 h with rfl | h
        · have := ih q (by rw [hc]; simp); simp; omega
        · have := ih p (by rw [hc]; exact List.mem_cons_of_mem _ h); simp; omega
theorem piece_len (p : ByteArray) (ps : List ByteArray) (s : ByteArray) (h : p ∈ ps) (hps : ps.map ByteArray.toList = splitB s.toList) : p.size ≤ s.size := by
  have h1 : p.toList ∈ splitB s.toList := by rw [← hps]; exact List.mem_map_of_mem h
  unfold splitB at h1
  have := cutAt_len 47 s.toList p.toList (List.mem_filter.1 h1).1
  rw [toList_len, toList_len] at this
  exact this
def CleanPost (w : World) (s : ByteArray) (e : Ending) (w' : World) : Prop := e = .returned (.bool (cleanB s)) ∧ Below w.heap.size w w'
set_option maxRecDepth 100000 in
set_option maxHeartbeats 1000000 in
theorem c_rclean (s : ByteArray) (hs : s.size ≤ 1000000000) (w : World) : Calls Tryz.prog 78 #[.string s] w fun e w' => e = .returned (.bool (cleanB s)) ∧ Below w.heap.size w w' := by
  have HCL := Lib.hid (cleanB_eq s)
  go_enter Tryz.func78, Tryz.ntmps78
  go_wp2_with (go_at_call 95; refine (c_rsplit s hs w).mono ?_; rintro e w1 ⟨v, ps, b1, b2, rfl, hown, hps, hpl, hB⟩; obtain ⟨a, c, rfl, hnil, hrow⟩ := hown.shape (fun _ => rfl); have HO := Lib.hid hrow; have HPS := Lib.hid hps; have HB := Lib.hid hB; clear hown hrow hps hB)
  rw [← HPS.out] at HCL
  go_loopg [6, 7] ps.length (fun gg t i wr => ∃ (k : Nat) (tb : ByteArray), k ≤ ps.length ∧ ps.length - k ≤ gg ∧ t = .string tb ∧ tb.size ≤ 13 * k ∧ i = .int .i64 k ∧ Aside (((ps.take k).map ByteArray.toList).all nameB = true) ∧ Aside (tb.toList = joinB ((ps.take k).map ByteArray.toList)) ∧ wr = w1)
  case atStart => exact ⟨0, ⟨#[]⟩, Nat.zero_le _, by omega, rfl, by decide, by simp, rfl, (by show _ = _; simp [ByteArray.toList_eq, joinB]), rfl⟩
  case round =>
    obtain ⟨k, tb, hk, hg, rfl, hts, rfl, HA, HT, rfl⟩ := hrel
    by_cases hlt : k < ps.length
    · have hl2 : (k : Int) < (ps.length : Int) := by omega
      obtain ⟨b, off, ha, hat⟩ := strs_at HO.out (Keeps.refl _ _) k hlt
      have hjs := join_step tb ps[k] ps k hlt rfl HT
      have hsz : ps[k].size ≤ 1000000000 := Nat.le_trans (piece_len ps[k] ps s (List.getElem_mem hlt) HPS.out) hs
      have has : ((ps.take (k + 1)).map ByteArray.toList).all nameB = (((ps.take k).map ByteArray.toList).all nameB && nameB ps[k].toList) := by
        rw [List.take_succ_eq_append_getElem hlt, List.map_append, List.all_append]
        simp only [List.map_cons, List.map_nil, List.all_cons, List.all_nil, Bool.and_true]
      have hin : nameB ps[k].toList = false → (ps.map ByteArray.toList).all nameB = false := by
        intro h
        rw [List.all_eq_false]
        exact ⟨_, List.mem_map_of_mem (List.getElem_mem hlt), by simp [h]⟩
      have hn12 := nameB_len ps[k].toList
      rw [toList_len] at hn12
      generalize ps[k] = p at hat hjs hsz has hin hn12
      have HJ := Lib.hid (And.intro hjs (And.intro has hin))
      clear hjs has hin
      subst ha
      cases hq : nameB p.toList with
      | false =>
        go_wp2_with (go_at_call 96; refine (c_rname p (by omega) _).mono ?_; rintro e w' ⟨rfl, rfl⟩; rw [hq])
        go_ret
        exact ⟨ret_bool (by rw [HCL.out, HJ.out.2.2 hq]; rfl), HB.out⟩
      | true =>
        have hp12 := hn12 hq
        go_wp2_with (go_at_call 96; refine (c_rname p (by omega) _).mono ?_; rintro e w' ⟨rfl, rfl⟩; rw [hq])
        go_roundg (ps.length - (k + 1))
        case measure => omega
        case rel => exact ⟨k + 1, _, by omega, by omega, rfl, (by have h1 : (⟨#[47]⟩ : ByteArray).size = 1 := rfl; simp; omega), by go_num, by show _ = _; rw [HJ.out.2.1, hq, HA]; rfl, HJ.out.1, rfl⟩
    · have hn : ¬ (k : Int) < (ps.length : Int) := by omega
      have he : k = ps.length := by omega
      have HA2 : Hid ((ps.map ByteArray.toList).all nameB = true) := Lib.hid (by have h := HA; rw [he, List.take_length] at h; exact h)
      have HT2 : Hid (tb.toList = joinB (ps.map ByteArray.toList)) := Lib.hid (by have h := HT; rw [he, List.take_length] at h; exact h)
      clear he HA HT
      have HF : Hid (cleanB s = (s.toList == [47] || (decide (0 < (ps.length : Int)) && s.toList == tb.toList))) := Lib.hid (by
        rw [HCL.out, HA2.out, HT2.out]
        cases ps with
        | nil => simp
        | cons x l => simp)
      clear HCL HA2 HT2
      go_wp2
      all_goals (go_ret; refine ⟨ret_bool ?_, HB.out⟩; rw [HF.out]; simp [*])
end Go.Proofs.YtnbfenapnfbmeaaGreat
