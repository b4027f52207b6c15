/- Words of this seat: rules and tests as plain values, and how they lie in memory. -/
import Derived.Test.YtnbfenapnfbmeaaGreatProg
import Derived.WalkKit
import Derived.Deep.QuietTactic
import Derived.BigQuiet
import Derived.Lib.Hide
import Derived.Laws.StructEq
import Derived.Deep.LoopGhost
import Derived.Below
namespace Go.Proofs.YtnbfenapnfbmeaaGreat
open Go.RowKit

/-! ### Equality of structs -/
section
variable {P : Program} {d : Nat} {xs ys : Array Value} {f : Field} {fs : List Field} {a b : Value} {r s : Bool} {w : World}
theorem feq_last (hn : (f.name == "_") = false) (ha : (part f.type xs f.offset).run P w = .ok a w) (hb : (part f.type ys f.offset).run P w = .ok b w) (he : (Op.equalIn d f.type a b).run P w = .ok r w) : (Op.eqFields d xs ys [f]).run P w = .ok r w := by
  have hn' : f.name ≠ "_" := by simpa using hn
  simp only [Op.eqFields, if_pos hn', Sem.run_bind, ha, hb, he, Result.andThen_ok]
  cases r <;> simp
theorem feq_cons (hn : (f.name == "_") = false) (ha : (part f.type xs f.offset).run P w = .ok a w) (hb : (part f.type ys f.offset).run P w = .ok b w) (he : (Op.equalIn d f.type a b).run P w = .ok r w) (hr : (Op.eqFields d xs ys fs).run P w = .ok s w) : (Op.eqFields d xs ys (f :: fs)).run P w = .ok (r && s) w := by
  have hn' : f.name ≠ "_" := by simpa using hn
  rw [Op.eqFields]
  simp only [if_pos hn', Sem.run_bind, ha, hb, he, Result.andThen_ok]
  cases r
  · simp
  · simpa using hr
theorem feq_of {t : TypeId} {fs : Array Field} (hu : P.underlying t = some (.struct fs)) (hp : P.stoodInHeld t = false) (h : (Op.eqFields d xs ys fs.toList).run P w = .ok r w) : (Op.equalIn (d + 1) t (.agg xs) (.agg ys)).run P w = .ok r w := by
  have hf : P.fieldsOf t = fs := by simp [Program.fieldsOf, hu]
  rw [run_equalIn_struct (P := P) w d t xs ys (by rw [hf]; exact hu) hp, hf]
  exact h
end

/-! ### Values -/
structure Test where
  field : Int
  op : Int
  num : Int
  text : ByteArray
  other : Int
deriving Inhabited
abbrev Test.cells (t : Test) : List Value := [.int .i64 t.field, .int .i64 t.op, .int .i64 t.num, .string t.text, .int .i64 t.other]
abbrev Test.v (t : Test) : Value := .agg #[.int .i64 t.field, .int .i64 t.op, .int .i64 t.num, .string t.text, .int .i64 t.other]
/-- A rule; where its tests lie stands beside it. -/
structure Rule where
  list : Int
  action : Int
  calls : Int
  ta : Option Addr
  tc : Nat
  tests : List Test
  watch : Int
  path : ByteArray
  perm : Int
  key : ByteArray
deriving Inhabited
abbrev Rule.cells (r : Rule) : List Value := [.int .i64 r.list, .int .i64 r.action, .int .u64 r.calls, .slice r.ta r.tests.length r.tc, .int .i64 r.watch, .string r.path, .int .i64 r.perm, .string r.key]
abbrev Rule.v (r : Rule) : Value := .agg #[.int .i64 r.list, .int .i64 r.action, .int .u64 r.calls, .slice r.ta r.tests.length r.tc, .int .i64 r.watch, .string r.path, .int .i64 r.perm, .string r.key]

/-- Element j of a list of cells, where the list lies at a: in a block of elements of type E. -/
def RowAt {α : Type} (w : World) (E : TypeId) (sz : Nat) (enc : α → List Value) (a : Option Addr) (xs : List α) : Prop :=
  ∀ j (h : j < xs.length), ∃ b off cs fz, a = some ⟨b, off, none⟩ ∧ w.heap[b]? = some (.cells cs E fz) ∧ ∀ i v, (enc xs[j])[i]? = some v → cs[off + j * sz + i]? = some v
/-- Blocks of elements of type E lie as they lay. -/
def Keeps (E : TypeId) (w w' : World) : Prop := ∀ (b : Nat) (cs : Array Value) (fz : Nat × Nat), w.heap[b]? = some (Obj.cells cs E fz) → w'.heap[b]? = some (Obj.cells cs E fz)
theorem Keeps.refl (E : TypeId) (w : World) : Keeps E w w := fun _ _ _ h => h
theorem Keeps.trans {E : TypeId} {w w1 w2 : World} (h : Keeps E w w1) (k : Keeps E w1 w2) : Keeps E w w2 := fun b cs fz hb => k b cs fz (h b cs fz hb)
theorem lt_of_some {w : World} {b : Nat} {o : Obj} (h : w.heap[b]? = some o) : b < w.heap.size := (Array.getElem?_eq_some_iff.1 h).1
theorem Keeps.below {E : TypeId} {w w' : World} {B : Nat} (h : Below B w w') (hB : w.heap.size ≤ B) : Keeps E w w' := fun b _ _ hb => (h.block b (Nat.lt_of_lt_of_le (lt_of_some hb) hB)).trans hb
theorem Keeps.grown {E E' : TypeId} {w w' : World} {g : Nat} {cur : Array Value} {fz : Nat × Nat} (h : w.grownBy w' (some g)) (hg : w.heap[g]? = some (.cells cur E' fz)) (hne : E ≠ E') : Keeps E w w' := fun b cs fz hb => by
  refine (h.block b (lt_of_some hb) ?_).trans hb
  intro e
  cases e
  rw [hg] at hb
  cases hb
  exact hne rfl
theorem Keeps.grown_none {E : TypeId} {w w' : World} (h : w.grownBy w' none) : Keeps E w w' := fun b _ _ hb => (h.block b (lt_of_some hb) (by simp)).trans hb

abbrev tTest : TypeId := 75
abbrev tRule : TypeId := 48
def TestsAt (w : World) (a : Option Addr) (ts : List Test) : Prop := ts.length ≤ 1000000 ∧ RowAt w tTest 5 Test.cells a ts
/-- A text that a path function is called with: bytes of ASCII. -/
def PathOk (s : ByteArray) : Prop := s.size ≤ 1000000000 ∧ ∀ x ∈ s.toList, x.toNat < 128
def RuleAt (w : World) (r : Rule) : Prop := TestsAt w r.ta r.tests ∧ (r.ta = none → r.tc = 0) ∧ r.tests.length ≤ r.tc ∧ PathOk r.path ∧ r.key.size ≤ 4611686018427387904
def RulesAt (w : World) (a : Option Addr) (rs : List Rule) : Prop := rs.length ≤ 1000000 ∧ RowAt w tRule 8 Rule.cells a rs ∧ ∀ r ∈ rs, RuleAt w r

theorem RowAt.keep {α : Type} {w w' : World} {E : TypeId} {sz : Nat} {enc : α → List Value} {a : Option Addr} {xs : List α} (h : RowAt w E sz enc a xs) (hk : Keeps E w w') : RowAt w' E sz enc a xs := by
  intro j hj
  obtain ⟨b, off, cs, fz, ha, hb, hc⟩ := h j hj
  exact ⟨b, off, cs, fz, ha, hk b cs fz hb, hc⟩
theorem TestsAt.keep {w w' : World} {a : Option Addr} {xs : List Test} (h : TestsAt w a xs) (hk : Keeps tTest w w') : TestsAt w' a xs := ⟨h.1, h.2.keep hk⟩
theorem RuleAt.keep {w w' : World} {r : Rule} (h : RuleAt w r) (hk : Keeps tTest w w') : RuleAt w' r := ⟨h.1.keep hk, h.2⟩
theorem RulesAt.keep {w w' : World} {a : Option Addr} {xs : List Rule} (h : RulesAt w a xs) (hk : Keeps tTest w w') (hk2 : Keeps tRule w w') : RulesAt w' a xs := ⟨h.1, h.2.1.keep hk2, fun r hr => (h.2.2 r hr).keep hk⟩
theorem TestsAt.below {w w' : World} {B : Nat} {a : Option Addr} {xs : List Test} (h : TestsAt w a xs) (hb : Below B w w') (hB : w.heap.size ≤ B) : TestsAt w' a xs := h.keep (Keeps.below hb hB)
theorem RuleAt.below {w w' : World} {B : Nat} {r : Rule} (h : RuleAt w r) (hb : Below B w w') (hB : w.heap.size ≤ B) : RuleAt w' r := h.keep (Keeps.below hb hB)
theorem RulesAt.below {w w' : World} {B : Nat} {a : Option Addr} {xs : List Rule} (h : RulesAt w a xs) (hb : Below B w w') (hB : w.heap.size ≤ B) : RulesAt w' a xs := h.keep (Keeps.below hb hB) (Keeps.below hb hB)

/-- A row of the call's own that holds a list. -/
def OwnRow {α : Type} (w : World) (B : Nat) (E : TypeId) (sz : Nat) (enc : α → List Value) (v : Value) (xs : List α) : Prop := w.ownsRow B E sz v xs.length (xs.flatMap enc)
theorem flatMap_at {α : Type} (enc : α → List Value) (sz : Nat) (hs : ∀ x, (enc x).length = sz) (xs : List α) (j : Nat) (h : j < xs.length) (i : Nat) (hi : i < sz) : (xs.flatMap enc)[j * sz + i]? = (enc xs[j])[i]? := by
  induction xs generalizing j with
  | nil => simp at h
  | cons x l ih =>
    rw [List.flatMap_cons]
    cases j with
    | zero =>
      rw [Nat.zero_mul, Nat.zero_add, List.getElem?_append_left (by rw [hs]; exact hi)]
      rfl
    | succ j =>
      have e : (j + 1) * sz + i = (enc x).length + (j * sz + i) := by rw [hs, Nat.succ_mul]; omega
      rw [e, List.getElem?_append_right (by omega), Nat.add_sub_cancel_left]
      exact ih j (by simpa using h)
theorem OwnRow.shape {α : Type} {w : World} {B : Nat} {E : TypeId} {sz : Nat} {enc : α → List Value} {v : Value} {xs : List α} (h : OwnRow w B E sz enc v xs) (hs : ∀ x, (enc x).length = sz) :
    ∃ a c, v = .slice a xs.length c ∧ (a = none → c = 0) ∧ RowAt w E sz enc a xs := by
  obtain ⟨hl, ⟨rfl, hn⟩ | ⟨g, cap, cur, rfl, hB, hg, hnc, hcm, hcs, ht⟩⟩ := h
  · exact ⟨none, 0, by rw [hn], fun _ => rfl, fun j hj => by omega⟩
  · refine ⟨some ⟨g, 0, none⟩, cap, rfl, (fun h => nomatch h), fun j hj => ⟨g, 0, cur, (0, 0), rfl, hg, fun i v hv => ?_⟩⟩
    have hi : i < sz := by
      have := (List.getElem?_eq_some_iff.1 hv).1
      rw [hs] at this
      exact this
    have h1 := flatMap_at enc sz hs xs j hj i hi
    rw [hv, ← ht, List.getElem?_take] at h1
    split at h1
    · rw [Nat.zero_add, ← h1, Array.getElem?_toList]
    · cases h1
theorem OwnRow.below {α : Type} {w w' : World} {B B' : Nat} {E : TypeId} {sz : Nat} {enc : α → List Value} {v : Value} {xs : List α} (h : OwnRow w B E sz enc v xs) (hb : Below B' w w') (hB : w.heap.size ≤ B') : OwnRow w' B E sz enc v xs :=
  World.ownsRow.kept (row := none) h ⟨hb.os, hb.tape, hb.output, hb.size, fun k hk _ => hb.block k (Nat.lt_of_lt_of_le hk hB)⟩ (by cases hv : v.ownBlock <;> simp)
abbrev ruleBox (r : Rule) : Obj := .cells #[.int .i64 r.list, .int .i64 r.action, .int .u64 r.calls, .slice r.ta r.tests.length r.tc, .int .i64 r.watch, .string r.path, .int .i64 r.perm, .string r.key] 48
/-- A list of rules in a row of the call's own. -/
def RulesOwn (w : World) (B : Nat) (v : Value) (rs : List Rule) : Prop := rs.length ≤ 1000000 ∧ OwnRow w B tRule 8 Rule.cells v rs ∧ ∀ r ∈ rs, RuleAt w r
theorem RulesOwn.shape {w : World} {B : Nat} {v : Value} {rs : List Rule} (h : RulesOwn w B v rs) : ∃ a c, v = .slice a rs.length c ∧ (a = none → c = 0) ∧ RulesAt w a rs := by
  obtain ⟨a, c, hv, hn, hr⟩ := h.2.1.shape (fun _ => rfl)
  exact ⟨a, c, hv, hn, h.1, hr, h.2.2⟩
theorem RulesOwn.below {w w' : World} {B B' : Nat} {v : Value} {rs : List Rule} (h : RulesOwn w B v rs) (hb : Below B' w w') (hB : w.heap.size ≤ B') : RulesOwn w' B v rs := ⟨h.1, h.2.1.below hb hB, fun r hr => (h.2.2 r hr).below hb hB⟩

/-- A rule without the place of its tests. -/
structure PRule where
  list : Int
  action : Int
  calls : Int
  tests : List Test
  watch : Int
  path : ByteArray
  perm : Int
  key : ByteArray
def Rule.p (r : Rule) : PRule := ⟨r.list, r.action, r.calls, r.tests, r.watch, r.path, r.perm, r.key⟩

/-! ### What is computed -/
def testEq (a b : Test) : Bool := a.field == b.field && (a.op == b.op && (a.num == b.num && (a.text.toList == b.text.toList && (a.other == b.other))))
def testsEq : List Test → List Test → Bool
  | [], [] => true
  | a :: l, b :: m => testEq a b && testsEq l m
  | _, _ => false
def ruleEq (a b : Rule) : Bool := a.list == b.list && a.action == b.action && a.calls == b.calls && a.watch == b.watch && a.path.toList == b.path.toList && a.perm == b.perm && a.key.toList == b.key.toList && testsEq a.tests b.tests
def maskValid (m : Int) : Bool := m / 4294967296 == 0
def maskHas (m n : Int) : Bool := if 0 ≤ n then if n < 32 then bits BinOp.and IntKind.u64 (m / 2 ^ n.toNat) 1 == 1 else false else false
def isText (f : Int) : Bool := f == 13 || f == 14
def compared (f : Int) : Bool := f == 3 || f == 4 || f == 5 || f == 6 || f == 7 || f == 19 || f == 20
def allowed (l f : Int) : Bool :=
  let p := (1 ≤ f && f ≤ 8) || f == 13 || f == 14
  if l == 1 || l == 4 then p else if l == 2 then 1 ≤ f && f ≤ 14 else if l == 3 then 1 ≤ f && f ≤ 21 else if l == 5 then p || f == 22 else false
def testCheck (t : Test) (l : Int) : Int :=
  if !allowed l t.field || t.other != 0 && (!allowed l t.other || !compared t.field || !compared t.other) then 120
  else if t.op < 1 || t.op > 8 || t.op > 2 && (isText t.field || t.other != 0) then 121
  else if t.other != 0 && (t.num != 0 || !(t.text.toList.isEmpty)) then 122
  else if t.other == 0 && isText t.field && (t.num != 0 || t.text.toList.isEmpty || decide (t.text.size > 640)) || !isText t.field && !(t.text.toList.isEmpty) then 122
  else 0

theorem eqTest (d : Nat) (w : World) (x0 y0 x1 y1 x2 y2 : Int) (x3 y3 : ByteArray) (x4 y4 : Int) :
    (Op.equalIn (d + 2) 75 (.agg #[.int .i64 x0, .int .i64 x1, .int .i64 x2, .string x3, .int .i64 x4]) (.agg #[.int .i64 y0, .int .i64 y1, .int .i64 y2, .string y3, .int .i64 y4])).run Tryz.prog w = .ok (testEq ⟨x0, x1, x2, x3, x4⟩ ⟨y0, y1, y2, y3, y4⟩) w := by
  refine feq_of Tryz.underlying75 (by kernel_rfl) ?_
  refine feq_cons (by rfl) (by go_simp; rfl) (by go_simp; rfl) (by go_simp) ?_
  refine feq_cons (by rfl) (by go_simp; rfl) (by go_simp; rfl) (by go_simp) ?_
  refine feq_cons (by rfl) (by go_simp; rfl) (by go_simp; rfl) (by go_simp) ?_
  refine feq_cons (by rfl) (by go_simp; rfl) (by go_simp; rfl) (by go_simp) ?_
  exact feq_last (by rfl) (by go_simp; rfl) (by go_simp; rfl) (by go_simp)

theorem testsEq_drop (k : Nat) (a b : List Test) (ha : k < a.length) (hb : k < b.length) : testsEq (a.drop k) (b.drop k) = (testEq a[k] b[k] && testsEq (a.drop (k + 1)) (b.drop (k + 1))) := by
  rw [List.drop_eq_getElem_cons ha, List.drop_eq_getElem_cons hb, testsEq]
theorem testsEq_len (a b : List Test) (h : a.length ≠ b.length) : testsEq a b = false := by
  induction a generalizing b with
  | nil => cases b with
    | nil => simp at h
    | cons => rfl
  | cons x l ih => cases b with
    | nil => rfl
    | cons y m => simp [testsEq, ih m (by simpa using h)]

theorem pw_drewN {B : Nat} {w W : World} (h : Below B w W) (n : Nat) : Below B w (W.drewN n) := ⟨h.os, h.tape, h.output, h.size, h.block⟩
theorem pw_drew {B : Nat} {w W : World} (h : Below B w W) : Below B w W.drew := ⟨h.os, h.tape, h.output, h.size, h.block⟩
theorem heap_new (w : World) (o : Obj) : (w.alloc o).heap[w.heap.size]? = some o := by show (w.heap.push o)[w.heap.size]? = some o; simp
theorem cell_of_block {w : World} {b : Nat} {cs : Array Value} {t : TypeId} (h : w.heap[b]? = some (.cells cs t)) (i : Nat) : w.cell? ⟨b, i, none⟩ = cs[i]? := by simp [World.cell?, h]
/-- What lies at rule k of a list, in a later world. -/
theorem RulesAt.at {w wr : World} {a : Option Addr} {rs : List Rule} (h : RulesAt w a rs) (hb : Below w.heap.size w wr) (k : Nat) (hk : k < rs.length) :
    ∃ b off, a = some ⟨b, off, none⟩ ∧ b < w.heap.size ∧ RuleAt w rs[k] ∧
      wr.cell? ⟨b, off + k * 8, none⟩ = some (.int .i64 rs[k].list) ∧ wr.cell? ⟨b, off + k * 8 + 1, none⟩ = some (.int .i64 rs[k].action) ∧
      wr.cell? ⟨b, off + k * 8 + 2, none⟩ = some (.int .u64 rs[k].calls) ∧ wr.cell? ⟨b, off + k * 8 + 3, none⟩ = some (.slice rs[k].ta rs[k].tests.length rs[k].tc) ∧
      wr.cell? ⟨b, off + k * 8 + 4, none⟩ = some (.int .i64 rs[k].watch) ∧ wr.cell? ⟨b, off + k * 8 + 5, none⟩ = some (.string rs[k].path) ∧
      wr.cell? ⟨b, off + k * 8 + 6, none⟩ = some (.int .i64 rs[k].perm) ∧ wr.cell? ⟨b, off + k * 8 + 7, none⟩ = some (.string rs[k].key) := by
  obtain ⟨b, off, cs, fz, ha, hh, hc⟩ := h.2.1 k hk
  have hlt := lt_of_some hh
  have hw : wr.heap[b]? = some (.cells cs tRule fz) := (hb.block b hlt).trans hh
  have c : ∀ i v, (rs[k]).cells[i]? = some v → wr.cell? ⟨b, off + k * 8 + i, none⟩ = some v := fun i v hv => by rw [World.cell?]; simp only [hw]; exact hc i v hv
  exact ⟨b, off, ha, hlt, h.2.2 _ (List.getElem_mem hk), c 0 _ rfl, c 1 _ rfl, c 2 _ rfl, c 3 _ rfl, c 4 _ rfl, c 5 _ rfl, c 6 _ rfl, c 7 _ rfl⟩
/-- What lies at test k of a list, in a later world. -/
theorem TestsAt.at {w wr : World} {a : Option Addr} {ts : List Test} (h : TestsAt w a ts) (hb : Below w.heap.size w wr) (k : Nat) (hk : k < ts.length) :
    ∃ b off, a = some ⟨b, off, none⟩ ∧ b < w.heap.size ∧
      wr.cell? ⟨b, off + k * 5, none⟩ = some (.int .i64 ts[k].field) ∧ wr.cell? ⟨b, off + k * 5 + 1, none⟩ = some (.int .i64 ts[k].op) ∧
      wr.cell? ⟨b, off + k * 5 + 2, none⟩ = some (.int .i64 ts[k].num) ∧ wr.cell? ⟨b, off + k * 5 + 3, none⟩ = some (.string ts[k].text) ∧
      wr.cell? ⟨b, off + k * 5 + 4, none⟩ = some (.int .i64 ts[k].other) := by
  obtain ⟨b, off, cs, fz, ha, hh, hc⟩ := h.2 k hk
  have hlt := lt_of_some hh
  have hw : wr.heap[b]? = some (.cells cs tTest fz) := (hb.block b hlt).trans hh
  have c : ∀ i v, (ts[k]).cells[i]? = some v → wr.cell? ⟨b, off + k * 5 + i, none⟩ = some v := fun i v hv => by rw [World.cell?]; simp only [hw]; exact hc i v hv
  exact ⟨b, off, ha, hlt, c 0 _ rfl, c 1 _ rfl, c 2 _ rfl, c 3 _ rfl, c 4 _ rfl⟩
/-- The index of the first element that a predicate holds of, from k on, or -1. -/
def findIdx {α : Type} (p : α → Bool) : Nat → List α → Int
  | _, [] => -1
  | k, x :: l => if p x then k else findIdx p (k + 1) l
def findRule (rs : List Rule) (r : Rule) : Int := findIdx (fun x => ruleEq x r) 0 rs
theorem findIdx_drop {α : Type} (p : α → Bool) (l : List α) (k : Nat) (h : k < l.length) : findIdx p k (l.drop k) = if p l[k] then (k : Int) else findIdx p (k + 1) (l.drop (k + 1)) := by
  rw [List.drop_eq_getElem_cons h, findIdx]

/-- A clean path: "/", or names behind slashes. -/
def nameB (l : List UInt8) : Bool := 1 ≤ l.length && l.length ≤ 12 && l != [46] && l != [46, 46] && l.all (fun c => c != 0 && c != 47)
/-- The pieces between slashes, empty ones too. -/
def cutAt (c : UInt8) : List UInt8 → List (List UInt8)
  | [] => [[]]
  | x :: l => if x == c then [] :: cutAt c l else match cutAt c l with
    | [] => [[x]]
    | p :: ps => (x :: p) :: ps
def cleanB (s : ByteArray) : Bool := s.toList == [47] || (match s.toList with
  | 47 :: l => (cutAt 47 l).all nameB
  | _ => false)
def testsCheck (li : Int) : List Test → Int
  | [] => 0
  | t :: l => if testCheck t li == 0 then testsCheck li l else testCheck t li
def listBad (r : Rule) : Bool := decide (r.list < 1) || decide (5 < r.list)
def actBad (r : Rule) : Bool := decide (r.action < 1) || decide (2 < r.action)
def callsBad (r : Rule) : Bool := if r.list == 2 || r.list == 3 then r.calls == 0 || !maskValid r.calls else r.calls != 0
def watchBad (r : Rule) : Bool := if r.watch == 0 then !r.path.toList.isEmpty || r.perm != 0 else
  !(r.watch == 1 || r.watch == 2) || r.list != 3 || !cleanB r.path || decide (128 < r.path.size) || decide (r.perm < 1) || decide (15 < r.perm)
def ruleCheck (r : Rule) : Int :=
  if listBad r then 130
  else if actBad r then 131
  else if callsBad r then 132
  else if 8 < r.tests.length then 133
  else if testsCheck r.list r.tests != 0 then testsCheck r.list r.tests
  else if watchBad r then 134
  else if 31 < r.key.size then 135
  else 0
theorem testsCheck_drop (li : Int) (l : List Test) (k : Nat) (h : k < l.length) : testsCheck li (l.drop k) = if testCheck l[k] li == 0 then testsCheck li (l.drop (k + 1)) else testCheck l[k] li := by
  rw [List.drop_eq_getElem_cons h, testsCheck]

def chkFrom (rs : List Rule) : Nat → List Rule → Int
  | _, [] => 0
  | k, x :: l => if ruleCheck x != 0 then ruleCheck x else if 0 ≤ findRule (rs.take k) x then 141 else chkFrom rs (k + 1) l
def rulesCheck (rs : List Rule) : Int := if 24 < rs.length then 140 else chkFrom rs 0 rs
theorem chkFrom_drop (rs : List Rule) (k : Nat) (h : k < rs.length) : chkFrom rs k (rs.drop k) = if ruleCheck rs[k] != 0 then ruleCheck rs[k] else if 0 ≤ findRule (rs.take k) rs[k] then 141 else chkFrom rs (k + 1) (rs.drop (k + 1)) := by
  rw [List.drop_eq_getElem_cons h, chkFrom]
theorem RulesAt.take {w : World} {a : Option Addr} {rs : List Rule} (h : RulesAt w a rs) (k : Nat) : RulesAt w a (rs.take k) := by
  refine ⟨by have := h.1; rw [List.length_take]; omega, fun j hj => ?_, fun r hr => h.2.2 r (List.mem_of_mem_take hr)⟩
  have hj' : j < rs.length := by rw [List.length_take] at hj; omega
  rw [List.getElem_take]
  exact h.2.1 j hj'

/-- The cells of a rule, from p on in block b. -/
def CellsR (w : World) (b p : Nat) (x : Rule) : Prop :=
  w.cell? ⟨b, p, none⟩ = some (.int .i64 x.list) ∧ w.cell? ⟨b, p + 1, none⟩ = some (.int .i64 x.action) ∧ w.cell? ⟨b, p + 2, none⟩ = some (.int .u64 x.calls) ∧
  w.cell? ⟨b, p + 3, none⟩ = some (.slice x.ta x.tests.length x.tc) ∧ w.cell? ⟨b, p + 4, none⟩ = some (.int .i64 x.watch) ∧ w.cell? ⟨b, p + 5, none⟩ = some (.string x.path) ∧
  w.cell? ⟨b, p + 6, none⟩ = some (.int .i64 x.perm) ∧ w.cell? ⟨b, p + 7, none⟩ = some (.string x.key)
theorem CellsR.block {w w' : World} {b p : Nat} {x : Rule} (h : CellsR w b p x) (hb : w'.heap[b]? = w.heap[b]?) : CellsR w' b p x := by
  have c : ∀ i, w'.cell? ⟨b, i, none⟩ = w.cell? ⟨b, i, none⟩ := fun i => by simp [World.cell?, hb]
  unfold CellsR
  rw [c, c, c, c, c, c, c, c]
  exact h
end Go.Proofs.YtnbfenapnfbmeaaGreat
