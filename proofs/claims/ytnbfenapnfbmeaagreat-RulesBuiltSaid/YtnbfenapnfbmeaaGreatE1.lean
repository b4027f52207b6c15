/- Contracts: the fields of contexts (printed by wip/tools/genE1.py). -/
import Derived.Test.YtnbfenapnfbmeaaGreatD4
set_option linter.unusedSimpArgs false
set_option linter.unusedVariables false
namespace Go.Proofs.YtnbfenapnfbmeaaGreat
open Go.RowKit
/-! ### Contexts and items -/
structure Item where
  given : ByteArray
  path : ByteArray
  dd : Int
  di : Int
  name : ByteArray
  fd : Int
  fi : Int
  role : Int
  kind : Int
  mode : Int
  uid : Int
  gid : Int
  perm : Int
deriving Inhabited
abbrev Item.cells (i : Item) : List Value := [.string i.given, .string i.path, .int .i64 i.dd, .int .i64 i.di, .string i.name, .int .i64 i.fd, .int .i64 i.fi, .int .i64 i.role, .int .i64 i.kind, .int .i64 i.mode, .int .i64 i.uid, .int .i64 i.gid, .int .i64 i.perm]
abbrev Item.v (i : Item) : Value := .agg #[.string i.given, .string i.path, .int .i64 i.dd, .int .i64 i.di, .string i.name, .int .i64 i.fd, .int .i64 i.fi, .int .i64 i.role, .int .i64 i.kind, .int .i64 i.mode, .int .i64 i.uid, .int .i64 i.gid, .int .i64 i.perm]
structure Ctx where
  phase : Int
  pid : Int
  ppid : Int
  uid : Int
  euid : Int
  gid : Int
  egid : Int
  auid : Int
  ses : Int
  cd : Int
  ci : Int
  comm : ByteArray
  exe : ByteArray
  oa : Option Addr
  on : Nat
  oc : Nat
  audited : Bool
  call : Int
  a0 : Int
  a1 : Int
  a2 : Int
  a3 : Int
  pa : Option Addr
  pn : Nat
  pc : Nat
  ra : Option Addr
  rn : Nat
  rc : Nat
  exit : Int
  ia : Option Addr
  ic : Nat
  items : List Item
  type : Int
deriving Inhabited
abbrev Ctx.vs (x : Ctx) : Array Value := #[.int .i64 x.phase, .int .i64 x.pid, .int .i64 x.ppid, .int .i64 x.uid, .int .i64 x.euid, .int .i64 x.gid, .int .i64 x.egid, .int .i64 x.auid, .int .i64 x.ses, .int .i64 x.cd, .int .i64 x.ci, .string x.comm, .string x.exe, .slice x.oa x.on x.oc, .bool x.audited, .int .i64 x.call, .int .i64 x.a0, .int .i64 x.a1, .int .i64 x.a2, .int .i64 x.a3, .slice x.pa x.pn x.pc, .slice x.ra x.rn x.rc, .int .i64 x.exit, .slice x.ia x.items.length x.ic, .int .i64 x.type]
abbrev Ctx.v (x : Ctx) : Value := .agg x.vs
abbrev ctxBox (x : Ctx) : Obj := Obj.cells x.vs 38
abbrev itemBox (x : Item) : Obj := Obj.cells #[.string x.given, .string x.path, .int .i64 x.dd, .int .i64 x.di, .string x.name, .int .i64 x.fd, .int .i64 x.fi, .int .i64 x.role, .int .i64 x.kind, .int .i64 x.mode, .int .i64 x.uid, .int .i64 x.gid, .int .i64 x.perm] 69
def argN (x : Ctx) (i : Int) : Int := if i = 0 then x.a0 else if i = 1 then x.a1 else if i = 2 then x.a2 else x.a3
def succ01 (e : Int) : Int := if 0 ≤ e then 1 else 0
/-- A function of a context that answers a number. -/
def IntFn (g : Nat) (f : Ctx → Int) : Prop := (∀ args w, (callFunc g args).run Tryz.prog w = .ok (.enter g args) w) ∧ ∀ (X : Ctx) (p : Nat) (w : World), w.heap[p]? = some (ctxBox X) → Calls Tryz.prog g #[.pointer (some ⟨p, 0, none⟩)] w fun e w' => e = .returned (.int .i64 (f X)) ∧ ∃ m, w' = w.drewN m
/-- The blocks from b on lie as they lay. -/
def Kept (b : Nat) (w W : World) : Prop := w.heap.size ≤ W.heap.size ∧ ∀ i, b ≤ i → i < w.heap.size → W.heap[i]? = w.heap[i]?
theorem Kept.refl (b : Nat) (w : World) : Kept b w w := ⟨Nat.le_refl _, fun _ _ _ => rfl⟩
theorem Kept.trans {b : Nat} {w W V : World} (h : Kept b w W) (k : Kept b W V) : Kept b w V := ⟨Nat.le_trans h.1 k.1, fun i hi hj => (k.2 i hi (Nat.lt_of_lt_of_le hj h.1)).trans (h.2 i hi hj)⟩
theorem Kept.below {b B : Nat} {w W : World} (h : Below B w W) (hB : w.heap.size ≤ B) : Kept b w W := ⟨h.size, fun i _ hj => h.block i (Nat.lt_of_lt_of_le hj hB)⟩
theorem Kept.drewN {b : Nat} {w W : World} (h : Kept b w W) (n : Nat) : Kept b w (W.drewN n) := h
/-- The number of a field, as a value that can be called. -/
def NumFn (b : Nat) (w : World) (v : Value) (f : Ctx → Int × Bool) : Prop := ∃ g bs, v = .func (.func g) #[] bs ∧ (∀ args w, (callFunc g args).run Tryz.prog w = .ok (.enter g args) w) ∧
  ∀ (X : Ctx) (p : Nat) (W : World), Kept b w W → W.heap[p]? = some (ctxBox X) → Calls Tryz.prog g (#[.pointer (some ⟨p, 0, none⟩)] ++ bs) W fun e w' => e = .returned (.tuple #[.int .i64 (f X).1, .bool (f X).2]) ∧ ∃ m, w' = W.drewN m
def ArgFn (b : Nat) (w : World) (v : Value) (f : Ctx → Int) : Prop := ∃ g bs, v = .func (.func g) #[] bs ∧ (∀ args w, (callFunc g args).run Tryz.prog w = .ok (.enter g args) w) ∧
  ∀ (X : Ctx) (p : Nat) (W : World), Kept b w W → W.heap[p]? = some (ctxBox X) → Calls Tryz.prog g (#[.pointer (some ⟨p, 0, none⟩)] ++ bs) W fun e w' => e = .returned (.int .i64 (f X)) ∧ ∃ m, w' = W.drewN m
theorem NumFn.kept {b : Nat} {w w' : World} {v : Value} {f : Ctx → Int × Bool} (h : NumFn b w v f) (hb : Kept b w w') : NumFn b w' v f := by
  obtain ⟨g, bs, e, en, hc⟩ := h
  exact ⟨g, bs, e, en, fun X p W hW hp => hc X p W (hb.trans hW) hp⟩
theorem ArgFn.kept {b : Nat} {w w' : World} {v : Value} {f : Ctx → Int} (h : ArgFn b w v f) (hb : Kept b w w') : ArgFn b w' v f := by
  obtain ⟨g, bs, e, en, hc⟩ := h
  exact ⟨g, bs, e, en, fun X p W hW hp => hc X p W (hb.trans hW) hp⟩
theorem IntFn.at {g : Nat} {f : Ctx → Int} (h : IntFn g f) (b : Nat) (w : World) : ArgFn b w (.func (.func g) #[] #[]) f := ⟨g, #[], rfl, h.1, fun X p W _ hp => h.2 X p W hp⟩

set_option maxRecDepth 100000 in
theorem i_pid : IntFn 100 Ctx.pid := by
  refine ⟨enters_of Tryz.func100 (by kernel_rfl) rfl, fun X p w hp => ?_⟩
  have k1 := cell_of_block hp 1
  simp at k1
  clear hp
  go_enter Tryz.func100, Tryz.ntmps100
  go_wp2
  go_ret
  exact ⟨rfl, 0, rfl⟩
set_option maxRecDepth 100000 in
theorem i_ppid : IntFn 101 Ctx.ppid := by
  refine ⟨enters_of Tryz.func101 (by kernel_rfl) rfl, fun X p w hp => ?_⟩
  have k1 := cell_of_block hp 2
  simp at k1
  clear hp
  go_enter Tryz.func101, Tryz.ntmps101
  go_wp2
  go_ret
  exact ⟨rfl, 0, rfl⟩
set_option maxRecDepth 100000 in
theorem i_uid : IntFn 102 Ctx.uid := by
  refine ⟨enters_of Tryz.func102 (by kernel_rfl) rfl, fun X p w hp => ?_⟩
  have k1 := cell_of_block hp 3
  simp at k1
  clear hp
  go_enter Tryz.func102, Tryz.ntmps102
  go_wp2
  go_ret
  exact ⟨rfl, 0, rfl⟩
set_option maxRecDepth 100000 in
theorem i_euid : IntFn 103 Ctx.euid := by
  refine ⟨enters_of Tryz.func103 (by kernel_rfl) rfl, fun X p w hp => ?_⟩
  have k1 := cell_of_block hp 4
  simp at k1
  clear hp
  go_enter Tryz.func103, Tryz.ntmps103
  go_wp2
  go_ret
  exact ⟨rfl, 0, rfl⟩
set_option maxRecDepth 100000 in
theorem i_gid : IntFn 104 Ctx.gid := by
  refine ⟨enters_of Tryz.func104 (by kernel_rfl) rfl, fun X p w hp => ?_⟩
  have k1 := cell_of_block hp 5
  simp at k1
  clear hp
  go_enter Tryz.func104, Tryz.ntmps104
  go_wp2
  go_ret
  exact ⟨rfl, 0, rfl⟩
set_option maxRecDepth 100000 in
theorem i_egid : IntFn 105 Ctx.egid := by
  refine ⟨enters_of Tryz.func105 (by kernel_rfl) rfl, fun X p w hp => ?_⟩
  have k1 := cell_of_block hp 6
  simp at k1
  clear hp
  go_enter Tryz.func105, Tryz.ntmps105
  go_wp2
  go_ret
  exact ⟨rfl, 0, rfl⟩
set_option maxRecDepth 100000 in
theorem i_auid : IntFn 106 Ctx.auid := by
  refine ⟨enters_of Tryz.func106 (by kernel_rfl) rfl, fun X p w hp => ?_⟩
  have k1 := cell_of_block hp 7
  simp at k1
  clear hp
  go_enter Tryz.func106, Tryz.ntmps106
  go_wp2
  go_ret
  exact ⟨rfl, 0, rfl⟩
set_option maxRecDepth 100000 in
theorem i_ses : IntFn 107 Ctx.ses := by
  refine ⟨enters_of Tryz.func107 (by kernel_rfl) rfl, fun X p w hp => ?_⟩
  have k1 := cell_of_block hp 8
  simp at k1
  clear hp
  go_enter Tryz.func107, Tryz.ntmps107
  go_wp2
  go_ret
  exact ⟨rfl, 0, rfl⟩
set_option maxRecDepth 100000 in
theorem i_exit : IntFn 112 Ctx.exit := by
  refine ⟨enters_of Tryz.func112 (by kernel_rfl) rfl, fun X p w hp => ?_⟩
  have k1 := cell_of_block hp 22
  simp at k1
  clear hp
  go_enter Tryz.func112, Tryz.ntmps112
  go_wp2
  go_ret
  exact ⟨rfl, 0, rfl⟩
set_option maxRecDepth 100000 in
theorem i_success : IntFn 113 (fun x => succ01 x.exit) := by
  refine ⟨enters_of Tryz.func113 (by kernel_rfl) rfl, fun X p w hp => ?_⟩
  have k1 := cell_of_block hp 22
  simp at k1
  clear hp
  by_cases hz : 0 ≤ X.exit
  · have hs : succ01 X.exit = 1 := if_pos hz
    simp only [hs]
    go_enter Tryz.func113, Tryz.ntmps113
    go_wp2
    go_ret
    exact ⟨rfl, 0, rfl⟩
  · have hs : succ01 X.exit = 0 := if_neg hz
    simp only [hs]
    go_enter Tryz.func113, Tryz.ntmps113
    go_wp2
    go_ret
    exact ⟨rfl, 0, rfl⟩

set_option maxRecDepth 100000 in
theorem c_always1 (v : Value) (f : Ctx → Int) (b0 : Nat) (w0 : World) (hf : ArgFn b0 w0 v f) (X : Ctx) (p B : Nat) (W : World) (hW : Kept b0 w0 W) (hp : W.heap[p]? = some (ctxBox X)) (hB : W.cell? ⟨B, 0, none⟩ = some v) :
    Calls Tryz.prog 124 #[.pointer (some ⟨p, 0, none⟩), .pointer (some ⟨B, 0, none⟩)] W fun e w' => e = .returned (.tuple #[.int .i64 (f X), .bool true]) ∧ ∃ m, w' = W.drewN m := by
  obtain ⟨g, bs, rfl, en, hc⟩ := hf
  have hcall := hc X p W hW hp
  clear hc hp
  go_enter Tryz.func124, Tryz.ntmps124
  go_wp2_with (go_at_fn g; refine hcall.mono ?_; rintro e w' ⟨rfl, m, rfl⟩)
  go_ret2
  exact ⟨rfl, m, rfl⟩
set_option maxRecDepth 100000 in
theorem c_always (g : Nat) (bs : Array Value) (f : Ctx → Int) (b0 : Nat) (w : World) (hb0 : b0 ≤ w.heap.size) (hf : ArgFn b0 w (.func (.func g) #[] bs) f) :
    Calls Tryz.prog 99 #[.func (.func g) #[] bs] w fun e w' => ∃ v, e = .returned v ∧ NumFn b0 w' v (fun X => (f X, true)) ∧ Below w.heap.size w w' := by
  have HF := Lib.hid hf
  clear hf
  go_enter Tryz.func99, Tryz.ntmps99
  go_wp2
  go_ret
  have hb := (Below.refl w.heap.size w).alloc (Nat.le_refl _) (Obj.cells #[.func (.func g) #[] bs] 132)
  refine ⟨_, rfl, ⟨124, #[.pointer (some ⟨w.heap.size, 0, none⟩)], rfl, enters_of Tryz.func124 (by kernel_rfl) rfl, fun X p W hW hp => c_always1 _ f b0 w HF.out X p w.heap.size W ((Kept.below hb (Nat.le_refl _)).trans hW) hp ?_⟩, hb⟩
  have := (hW.2 w.heap.size hb0 (by simp)).trans (heap_new w _)
  rw [cell_of_block this]; rfl
set_option maxRecDepth 100000 in
theorem c_arg0 (X : Ctx) (p B : Nat) (W : World) (hp : W.heap[p]? = some (ctxBox X)) (hB : W.cell? ⟨B, 0, none⟩ = some (.int .i64 0)) :
    Calls Tryz.prog 125 #[.pointer (some ⟨p, 0, none⟩), .pointer (some ⟨B, 0, none⟩)] W fun e w' => e = .returned (.int .i64 X.a0) ∧ ∃ m, w' = W.drewN m := by
  have k1 := cell_of_block hp 16
  simp at k1
  clear hp
  go_enter Tryz.func125, Tryz.ntmps125
  go_wp2
  go_quiet (fail)
  go_wp2
  go_ret
  exact ⟨rfl, _, rfl⟩
set_option maxRecDepth 100000 in
theorem c_arg1 (X : Ctx) (p B : Nat) (W : World) (hp : W.heap[p]? = some (ctxBox X)) (hB : W.cell? ⟨B, 0, none⟩ = some (.int .i64 1)) :
    Calls Tryz.prog 125 #[.pointer (some ⟨p, 0, none⟩), .pointer (some ⟨B, 0, none⟩)] W fun e w' => e = .returned (.int .i64 X.a1) ∧ ∃ m, w' = W.drewN m := by
  have k1 := cell_of_block hp 17
  simp at k1
  clear hp
  go_enter Tryz.func125, Tryz.ntmps125
  go_wp2
  go_quiet (fail)
  go_wp2
  go_ret
  exact ⟨rfl, _, rfl⟩
set_option maxRecDepth 100000 in
theorem c_arg2 (X : Ctx) (p B : Nat) (W : World) (hp : W.heap[p]? = some (ctxBox X)) (hB : W.cell? ⟨B, 0, none⟩ = some (.int .i64 2)) :
    Calls Tryz.prog 125 #[.pointer (some ⟨p, 0, none⟩), .pointer (some ⟨B, 0, none⟩)] W fun e w' => e = .returned (.int .i64 X.a2) ∧ ∃ m, w' = W.drewN m := by
  have k1 := cell_of_block hp 18
  simp at k1
  clear hp
  go_enter Tryz.func125, Tryz.ntmps125
  go_wp2
  go_quiet (fail)
  go_wp2
  go_ret
  exact ⟨rfl, _, rfl⟩
set_option maxRecDepth 100000 in
theorem c_arg3 (X : Ctx) (p B : Nat) (W : World) (hp : W.heap[p]? = some (ctxBox X)) (hB : W.cell? ⟨B, 0, none⟩ = some (.int .i64 3)) :
    Calls Tryz.prog 125 #[.pointer (some ⟨p, 0, none⟩), .pointer (some ⟨B, 0, none⟩)] W fun e w' => e = .returned (.int .i64 X.a3) ∧ ∃ m, w' = W.drewN m := by
  have k1 := cell_of_block hp 19
  simp at k1
  clear hp
  go_enter Tryz.func125, Tryz.ntmps125
  go_wp2
  go_quiet (fail)
  go_wp2
  go_ret
  exact ⟨rfl, _, rfl⟩
set_option maxRecDepth 100000 in
theorem c_argument0 (b0 : Nat) (w : World) (hb0 : b0 ≤ w.heap.size) :
    Calls Tryz.prog 108 #[.int .i64 0] w fun e w' => ∃ v, e = .returned v ∧ NumFn b0 w' v (fun X => (X.a0, true)) ∧ Below w.heap.size w w' := by
  have hb := (Below.refl w.heap.size w).alloc (Nat.le_refl _) (Obj.cells #[.int .i64 0] 3)
  have hcall := c_always 125 #[.pointer (some ⟨w.heap.size, 0, none⟩)] (fun X => X.a0) b0 (w.alloc (Obj.cells #[.int .i64 0] 3)) (by simp; omega) ⟨125, #[.pointer (some ⟨w.heap.size, 0, none⟩)], rfl, enters_of Tryz.func125 (by kernel_rfl) rfl, fun X p W hW hp => c_arg0 X p w.heap.size W hp (by
    have := (hW.2 w.heap.size hb0 (by simp)).trans (heap_new w _)
    rw [cell_of_block this]; rfl)⟩
  have HB := Lib.hid hb
  clear hb
  go_enter Tryz.func108, Tryz.ntmps108
  go_wp2_with (go_at_call 99; refine hcall.mono ?_; rintro e w' ⟨v, rfl, hn, hb'⟩)
  go_ret
  exact ⟨_, rfl, hn, HB.out.trans (hb'.mono (by simp))⟩
set_option maxRecDepth 100000 in
theorem c_argument1 (b0 : Nat) (w : World) (hb0 : b0 ≤ w.heap.size) :
    Calls Tryz.prog 108 #[.int .i64 1] w fun e w' => ∃ v, e = .returned v ∧ NumFn b0 w' v (fun X => (X.a1, true)) ∧ Below w.heap.size w w' := by
  have hb := (Below.refl w.heap.size w).alloc (Nat.le_refl _) (Obj.cells #[.int .i64 1] 3)
  have hcall := c_always 125 #[.pointer (some ⟨w.heap.size, 0, none⟩)] (fun X => X.a1) b0 (w.alloc (Obj.cells #[.int .i64 1] 3)) (by simp; omega) ⟨125, #[.pointer (some ⟨w.heap.size, 0, none⟩)], rfl, enters_of Tryz.func125 (by kernel_rfl) rfl, fun X p W hW hp => c_arg1 X p w.heap.size W hp (by
    have := (hW.2 w.heap.size hb0 (by simp)).trans (heap_new w _)
    rw [cell_of_block this]; rfl)⟩
  have HB := Lib.hid hb
  clear hb
  go_enter Tryz.func108, Tryz.ntmps108
  go_wp2_with (go_at_call 99; refine hcall.mono ?_; rintro e w' ⟨v, rfl, hn, hb'⟩)
  go_ret
  exact ⟨_, rfl, hn, HB.out.trans (hb'.mono (by simp))⟩
set_option maxRecDepth 100000 in
theorem c_argument2 (b0 : Nat) (w : World) (hb0 : b0 ≤ w.heap.size) :
    Calls Tryz.prog 108 #[.int .i64 2] w fun e w' => ∃ v, e = .returned v ∧ NumFn b0 w' v (fun X => (X.a2, true)) ∧ Below w.heap.size w w' := by
  have hb := (Below.refl w.heap.size w).alloc (Nat.le_refl _) (Obj.cells #[.int .i64 2] 3)
  have hcall := c_always 125 #[.pointer (some ⟨w.heap.size, 0, none⟩)] (fun X => X.a2) b0 (w.alloc (Obj.cells #[.int .i64 2] 3)) (by simp; omega) ⟨125, #[.pointer (some ⟨w.heap.size, 0, none⟩)], rfl, enters_of Tryz.func125 (by kernel_rfl) rfl, fun X p W hW hp => c_arg2 X p w.heap.size W hp (by
    have := (hW.2 w.heap.size hb0 (by simp)).trans (heap_new w _)
    rw [cell_of_block this]; rfl)⟩
  have HB := Lib.hid hb
  clear hb
  go_enter Tryz.func108, Tryz.ntmps108
  go_wp2_with (go_at_call 99; refine hcall.mono ?_; rintro e w' ⟨v, rfl, hn, hb'⟩)
  go_ret
  exact ⟨_, rfl, hn, HB.out.trans (hb'.mono (by simp))⟩
set_option maxRecDepth 100000 in
theorem c_argument3 (b0 : Nat) (w : World) (hb0 : b0 ≤ w.heap.size) :
    Calls Tryz.prog 108 #[.int .i64 3] w fun e w' => ∃ v, e = .returned v ∧ NumFn b0 w' v (fun X => (X.a3, true)) ∧ Below w.heap.size w w' := by
  have hb := (Below.refl w.heap.size w).alloc (Nat.le_refl _) (Obj.cells #[.int .i64 3] 3)
  have hcall := c_always 125 #[.pointer (some ⟨w.heap.size, 0, none⟩)] (fun X => X.a3) b0 (w.alloc (Obj.cells #[.int .i64 3] 3)) (by simp; omega) ⟨125, #[.pointer (some ⟨w.heap.size, 0, none⟩)], rfl, enters_of Tryz.func125 (by kernel_rfl) rfl, fun X p W hW hp => c_arg3 X p w.heap.size W hp (by
    have := (hW.2 w.heap.size hb0 (by simp)).trans (heap_new w _)
    rw [cell_of_block this]; rfl)⟩
  have HB := Lib.hid hb
  clear hb
  go_enter Tryz.func108, Tryz.ntmps108
  go_wp2_with (go_at_call 99; refine hcall.mono ?_; rintro e w' ⟨v, rfl, hn, hb'⟩)
  go_ret
  exact ⟨_, rfl, hn, HB.out.trans (hb'.mono (by simp))⟩
set_option maxRecDepth 100000 in
theorem c_atExit1 (v : Value) (f : Ctx → Int) (b0 : Nat) (w0 : World) (hf : ArgFn b0 w0 v f) (X : Ctx) (p B : Nat) (W : World) (hW : Kept b0 w0 W) (hp : W.heap[p]? = some (ctxBox X)) (hB : W.cell? ⟨B, 0, none⟩ = some v) :
    Calls Tryz.prog 126 #[.pointer (some ⟨p, 0, none⟩), .pointer (some ⟨B, 0, none⟩)] W fun e w' => e = .returned (.tuple #[.int .i64 (f X), .bool (decide (X.phase = 2))]) ∧ ∃ m, w' = W.drewN m := by
  obtain ⟨g, bs, rfl, en, hc⟩ := hf
  have hcall := fun n => hc X p (W.drewN n) (hW.drewN n) hp
  have k1 := cell_of_block hp 0
  simp at k1
  clear hc hp
  go_enter Tryz.func126, Tryz.ntmps126
  go_wp2
  go_quiet (first | (go_at_fn g; exact Calls.quiet_of (hcall _)))
  go_wp2
  go_ret2
  exact ⟨rfl, _, rfl⟩
set_option maxRecDepth 100000 in
theorem c_atExit (g : Nat) (bs : Array Value) (f : Ctx → Int) (b0 : Nat) (w : World) (hb0 : b0 ≤ w.heap.size) (hf : ArgFn b0 w (.func (.func g) #[] bs) f) :
    Calls Tryz.prog 111 #[.func (.func g) #[] bs] w fun e w' => ∃ v, e = .returned v ∧ NumFn b0 w' v (fun X => (f X, decide (X.phase = 2))) ∧ Below w.heap.size w w' := by
  have HF := Lib.hid hf
  clear hf
  go_enter Tryz.func111, Tryz.ntmps111
  go_wp2
  go_ret
  have hb := (Below.refl w.heap.size w).alloc (Nat.le_refl _) (Obj.cells #[.func (.func g) #[] bs] 132)
  refine ⟨_, rfl, ⟨126, #[.pointer (some ⟨w.heap.size, 0, none⟩)], rfl, enters_of Tryz.func126 (by kernel_rfl) rfl, fun X p W hW hp => c_atExit1 _ f b0 w HF.out X p w.heap.size W ((Kept.below hb (Nat.le_refl _)).trans hW) hp ?_⟩, hb⟩
  have := (hW.2 w.heap.size hb0 (by simp)).trans (heap_new w _)
  rw [cell_of_block this]; rfl
set_option maxRecDepth 100000 in
theorem n_type (b : Nat) (w : World) : NumFn b w (.func (.func 119) #[] #[]) (fun X => (X.type, X.type != 0)) := by
  refine ⟨119, #[], rfl, enters_of Tryz.func119 (by kernel_rfl) rfl, fun X p W _ hp => ?_⟩
  have k1 := cell_of_block hp 24
  simp at k1
  clear hp
  cases q : (X.type != 0) with
  | true =>
    have q' : ¬ X.type = 0 := by simpa using q
    go_enter Tryz.func119, Tryz.ntmps119
    go_wp2
    go_quiet (fail)
    go_wp2
    go_ret2
    exact ⟨by simp [q'], _, rfl⟩
  | false =>
    have q' : X.type = 0 := by simpa using q
    go_enter Tryz.func119, Tryz.ntmps119
    go_wp2
    go_quiet (fail)
    go_wp2
    go_ret2
    exact ⟨by simp [q'], _, rfl⟩
set_option maxRecDepth 100000 in
theorem t_exe (X : Ctx) (p : Nat) (w : World) (hp : w.heap[p]? = some (ctxBox X)) : Calls Tryz.prog 109 #[.pointer (some ⟨p, 0, none⟩)] w fun e w' => e = .returned (.string X.exe) ∧ ∃ m, w' = w.drewN m := by
  have k1 := cell_of_block hp 12
  simp at k1
  clear hp
  go_enter Tryz.func109, Tryz.ntmps109
  go_wp2
  go_ret
  exact ⟨rfl, 0, rfl⟩
set_option maxRecDepth 100000 in
theorem t_comm (X : Ctx) (p : Nat) (w : World) (hp : w.heap[p]? = some (ctxBox X)) : Calls Tryz.prog 110 #[.pointer (some ⟨p, 0, none⟩)] w fun e w' => e = .returned (.string X.comm) ∧ ∃ m, w' = w.drewN m := by
  have k1 := cell_of_block hp 11
  simp at k1
  clear hp
  go_enter Tryz.func110, Tryz.ntmps110
  go_wp2
  go_ret
  exact ⟨rfl, 0, rfl⟩
set_option maxRecDepth 100000 in
theorem y_fi (x : Item) (w : World) : Calls Tryz.prog 114 #[x.v] w fun e w' => e = .returned (.int .i64 x.fi) ∧ Below w.heap.size w w' := by
  go_enter Tryz.func114, Tryz.ntmps114
  go_wp2
  go_ret
  exact ⟨rfl, (Below.refl _ _).alloc (Nat.le_refl _) _⟩
set_option maxRecDepth 100000 in
theorem y_fd (x : Item) (w : World) : Calls Tryz.prog 115 #[x.v] w fun e w' => e = .returned (.int .i64 x.fd) ∧ Below w.heap.size w w' := by
  go_enter Tryz.func115, Tryz.ntmps115
  go_wp2
  go_ret
  exact ⟨rfl, (Below.refl _ _).alloc (Nat.le_refl _) _⟩
set_option maxRecDepth 100000 in
theorem y_uid (x : Item) (w : World) : Calls Tryz.prog 116 #[x.v] w fun e w' => e = .returned (.int .i64 x.uid) ∧ Below w.heap.size w w' := by
  go_enter Tryz.func116, Tryz.ntmps116
  go_wp2
  go_ret
  exact ⟨rfl, (Below.refl _ _).alloc (Nat.le_refl _) _⟩
set_option maxRecDepth 100000 in
theorem y_gid (x : Item) (w : World) : Calls Tryz.prog 117 #[x.v] w fun e w' => e = .returned (.int .i64 x.gid) ∧ Below w.heap.size w w' := by
  go_enter Tryz.func117, Tryz.ntmps117
  go_wp2
  go_ret
  exact ⟨rfl, (Below.refl _ _).alloc (Nat.le_refl _) _⟩
set_option maxRecDepth 100000 in
theorem y_kind (x : Item) (w : World) : Calls Tryz.prog 118 #[x.v] w fun e w' => e = .returned (.int .i64 x.kind) ∧ Below w.heap.size w w' := by
  go_enter Tryz.func118, Tryz.ntmps118
  go_wp2
  go_ret
  exact ⟨rfl, (Below.refl _ _).alloc (Nat.le_refl _) _⟩
end Go.Proofs.YtnbfenapnfbmeaaGreat
