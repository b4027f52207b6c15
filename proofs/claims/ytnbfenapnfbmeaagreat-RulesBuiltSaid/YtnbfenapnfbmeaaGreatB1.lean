/- Words of this seat: appends. -/
import Derived.Test.YtnbfenapnfbmeaaGreatB0
import Derived.Laws.AppendOwn
import Derived.Laws.AppendOwnNone
import Derived.Deep.AppendLies
namespace Go.Proofs.YtnbfenapnfbmeaaGreat
open Go.RowKit

theorem bcell {W w1 : World} (hb : Below W.heap.size W w1) : (∀ b o, b < W.heap.size → w1.cell? ⟨b, o, none⟩ = W.cell? ⟨b, o, none⟩) ∧ (∀ b o, b < W.heap.size → w1.frozen? ⟨b, o, none⟩ = W.frozen? ⟨b, o, none⟩) :=
  ⟨fun b o h => hb.cell (p := ⟨b, o, none⟩) h, fun b o h => hb.frozen (p := ⟨b, o, none⟩) h⟩
theorem frozen_of_block {w : World} {b : Nat} {cs : Array Value} {t : TypeId} (h : w.heap[b]? = some (.cells cs t)) (i : Nat) : w.frozen? ⟨b, i, none⟩ = false := by simp [World.frozen?, h]
theorem OwnRow.of_heap {α : Type} {w w' : World} {B : Nat} {E : TypeId} {sz : Nat} {enc : α → List Value} {v : Value} {xs : List α} (h : OwnRow w B E sz enc v xs) (hk : ∀ k, B ≤ k → w'.heap[k]? = w.heap[k]?) : OwnRow w' B E sz enc v xs := by
  refine ⟨h.1, ?_⟩
  rcases h.2 with hn | ⟨g, cap, cur, rfl, hb, hgg, rest⟩
  · exact .inl hn
  · exact .inr ⟨g, cap, cur, rfl, hb, (hk g hb).trans hgg, rest⟩
theorem OwnRow.cap_le {α : Type} {w : World} {B : Nat} {E : TypeId} {sz : Nat} {enc : α → List Value} {a : Option Addr} {n c : Nat} {xs : List α} (h : OwnRow w B E sz enc (.slice a n c) xs) : xs.length ≤ c := by
  rcases h.2 with ⟨he, hn⟩ | ⟨g, cap, cur, he, hb, hgg, hc, _⟩
  · omega
  · cases he
    exact hc
theorem heap_setCell' (w : World) (b o : Nat) (u : Value) (k : Nat) (h : k ≠ b) : (w.setCell ⟨b, o, none⟩ u).heap[k]? = w.heap[k]? := Below.heap_setCell w ⟨b, o, none⟩ u k h
theorem flatMap_len {α : Type} (enc : α → List Value) (sz : Nat) (hs : ∀ x, (enc x).length = sz) (xs : List α) : (xs.flatMap enc).length = xs.length * sz := by
  induction xs with
  | nil => simp
  | cons x l ih => rw [List.flatMap_cons, List.length_append, ih, hs, List.length_cons, Nat.succ_mul, Nat.add_comm]
theorem RowAt.news {α : Type} {w : World} {E : TypeId} {sz : Nat} {enc : α → List Value} {ad : Addr} {xs : List α} (h : RowAt w E sz enc (some ad) xs) (hsz : 0 < sz) (hs : ∀ x, (enc x).length = sz) :
    ∀ (j : Nat) u, (xs.flatMap enc)[j]? = some u → w.cell? (ad.add j) = some u := by
  intro j u hu
  have hlen := flatMap_len enc sz hs xs
  have hj : j < xs.length * sz := by
    have := (List.getElem?_eq_some_iff.1 hu).1
    omega
  have hq : j / sz < xs.length := (Nat.div_lt_iff_lt_mul hsz).2 hj
  have hm : j % sz < sz := Nat.mod_lt _ hsz
  have e : j / sz * sz + j % sz = j := by rw [Nat.mul_comm]; exact Nat.div_add_mod j sz
  have h1 := flatMap_at enc sz hs xs (j / sz) hq (j % sz) hm
  rw [e, hu] at h1
  obtain ⟨b, off, cs, fz, ha, hh, hc⟩ := h (j / sz) hq
  cases ha
  have h2 := hc (j % sz) u h1.symm
  rw [Addr.add_lit, World.cell?]
  simp only [hh]
  rw [show off + j = off + j / sz * sz + j % sz by omega]
  exact h2

/-- 'append([]T(nil), xs...)': a new row that holds the same. -/
theorem append_copy {P : Program} {w : World} {ops : Array Oper} {rest : List Oper} {o : Oper} {a : Act} {Q : Exit → Act → World → Prop} (hgd : o.guard = none) (s x : Operand) (t : TypeId)
    (ho : o.op = .call { callee := .builtin .append, args := #[s, x], argTypes := #[t, t] })
    (e : TypeId) (i : TypeInfo) (z : Value) (sz bytes : Nat) (ht : P.underlying t = some (.slice e)) (hi : P.info? e = some i) (hz : i.zero = some z)
    (hsize : i.size = sz) (hby : i.bytes = bytes) (hzs : z.cells.size = sz) (hsz : 0 < sz) (hs : a.eval s = .slice none 0 0)
    {α : Type} (enc : α → List Value) (xs : List α) (henc : ∀ x, (enc x).length = sz) (hone : ∀ x, ∀ u ∈ enc x, u.oneCell' = true)
    (aa : Option Addr) (c : Nat) (hx : a.eval x = .slice aa xs.length c) (hnil : aa = none → c = 0) (hrow : RowAt w e sz enc aa xs) (h63 : xs.length ≤ maxLen) (hbytes : xs.length * bytes ≤ 140737488355328)
    (h : ∀ v' w', OwnRow w' w.heap.size e sz enc v' xs → Below w.heap.size w w' → wpList P ops Q rest (a.put o.dst v') w') : wpList P ops Q (o :: rest) a w := by
  have hn0 : w.ownsRow w.heap.size e sz (.slice none 0 0) 0 [] := World.ownsRow_nil _ _ _ _
  cases aa with
  | none =>
    have h0 : xs = [] := by
      cases xs with
      | nil => rfl
      | cons y l =>
        obtain ⟨b, off, cs, fz, ha, _⟩ := hrow 0 (by simp)
        cases ha
    subst h0
    have hc := hnil rfl
    subst hc
    exact wpList_append_own_none hgd s x t ho w.heap.size e i sz ht hi (.slice none 0 0) 0 [] hs hn0 hx (h _ _ hn0 (Below.refl _ _))
  | some ad =>
    have hlen := flatMap_len enc sz henc xs
    refine wpList_append_own w hgd s x t ho w.heap.size e i z sz bytes ht hi hz hsize hby hzs hsz (.slice none 0 0) 0 [] hs hn0 ad xs.length c (xs.flatMap enc) hx hlen (hrow.news hsz henc) (fun u hu => ?_) (by omega) (by rw [Nat.zero_add]; exact hbytes) (Nat.le_refl _) (fun v' w' hown hg _ => h v' w' ?_ ?_)
    · obtain ⟨y, _, hy⟩ := List.mem_flatMap.1 hu
      exact hone y u hy
    · rw [Nat.zero_add, List.nil_append] at hown
      exact hown
    · exact (Below.refl _ w).grown hg (Nat.le_refl _) (fun k hk => by cases hk)

/-- 'append(own, xs...)': a row of the call's own, with a list behind. -/
theorem append_row {P : Program} {w : World} {ops : Array Oper} {rest : List Oper} {o : Oper} {a : Act} {Q : Exit → Act → World → Prop} (hgd : o.guard = none) (s x : Operand) (t : TypeId)
    (ho : o.op = .call { callee := .builtin .append, args := #[s, x], argTypes := #[t, t] })
    (e : TypeId) (i : TypeInfo) (z : Value) (sz bytes : Nat) (ht : P.underlying t = some (.slice e)) (hi : P.info? e = some i) (hz : i.zero = some z)
    (hsize : i.size = sz) (hby : i.bytes = bytes) (hzs : z.cells.size = sz) (hsz : 0 < sz) (B : Nat) (v : Value) (n : Nat) (ys : List Value) (hs : a.eval s = v) (hown : w.ownsRow B e sz v n ys)
    {α : Type} (enc : α → List Value) (xs : List α) (henc : ∀ x, (enc x).length = sz) (hone : ∀ x, ∀ u ∈ enc x, u.oneCell' = true)
    (aa : Option Addr) (c : Nat) (hx : a.eval x = .slice aa xs.length c) (hnil : aa = none → c = 0) (hrow : RowAt w e sz enc aa xs) (h63 : n + xs.length ≤ maxLen) (hbytes : (n + xs.length) * bytes ≤ 140737488355328) (hB : B ≤ w.heap.size)
    (h : ∀ v' w', w'.ownsRow B e sz v' (n + xs.length) (ys ++ xs.flatMap enc) → w.grownBy w' v.ownBlock → wpList P ops Q rest (a.put o.dst v') w') : wpList P ops Q (o :: rest) a w := by
  cases aa with
  | none =>
    have h0 : xs = [] := by
      cases xs with
      | nil => rfl
      | cons y l =>
        obtain ⟨b, off, cs, fz, ha, _⟩ := hrow 0 (by simp)
        cases ha
    subst h0
    have hc := hnil rfl
    subst hc
    exact wpList_append_own_none hgd s x t ho B e i sz ht hi v n ys hs hown hx (h _ _ (by simpa using hown) ⟨rfl, rfl, rfl, Nat.le_refl _, fun _ _ _ => rfl⟩)
  | some ad =>
    exact wpList_append_own w hgd s x t ho B e i z sz bytes ht hi hz hsize hby hzs hsz v n ys hs hown ad xs.length c (xs.flatMap enc) hx (flatMap_len enc sz henc xs) (hrow.news hsz henc) (fun u hu => by
      obtain ⟨y, _, hy⟩ := List.mem_flatMap.1 hu
      exact hone y u hy) h63 hbytes hB (fun v' w' hown hg _ => h v' w' hown hg)
end Go.Proofs.YtnbfenapnfbmeaaGreat
