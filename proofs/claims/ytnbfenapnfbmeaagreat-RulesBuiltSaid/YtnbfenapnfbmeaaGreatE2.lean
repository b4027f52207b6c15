/- Contracts: the table of the fields. -/
import Derived.Test.YtnbfenapnfbmeaaGreatE1
set_option linter.unusedSimpArgs false
set_option linter.unusedVariables false
namespace Go.Proofs.YtnbfenapnfbmeaaGreat
open Go.RowKit
def numOf : Nat → Ctx → Int × Bool
  | 1, X => (X.pid, true) | 2, X => (X.ppid, true) | 3, X => (X.uid, true) | 4, X => (X.euid, true)
  | 5, X => (X.gid, true) | 6, X => (X.egid, true) | 7, X => (X.auid, true) | 8, X => (X.ses, true)
  | 9, X => (X.a0, true) | 10, X => (X.a1, true) | 11, X => (X.a2, true) | 12, X => (X.a3, true)
  | 15, X => (X.exit, decide (X.phase = 2)) | 16, X => (succ01 X.exit, decide (X.phase = 2)) | _, X => (X.type, X.type != 0)
def itemOf : Nat → Item → Int
  | 17, x => x.fi | 18, x => x.fd | 19, x => x.uid | 20, x => x.gid | _, x => x.kind
def ItemFn (g : Nat) (f : Item → Int) : Prop := (∀ args w, (callFunc g args).run Tryz.prog w = .ok (.enter g args) w) ∧ ∀ (x : Item) (w : World), Calls Tryz.prog g #[x.v] w fun e w' => e = .returned (.int .i64 (f x)) ∧ Below w.heap.size w w'
def TextFn (g : Nat) (f : Ctx → ByteArray) : Prop := (∀ args w, (callFunc g args).run Tryz.prog w = .ok (.enter g args) w) ∧ ∀ (X : Ctx) (p : Nat) (w : World), w.heap[p]? = some (ctxBox X) → Calls Tryz.prog g #[.pointer (some ⟨p, 0, none⟩)] w fun e w' => e = .returned (.string (f X)) ∧ ∃ m, w' = w.drewN m
def textOf : Nat → Ctx → ByteArray
  | 13, X => X.exe | _, X => X.comm
/-- The three functions of field i. -/
def FieldR (b : Nat) (w : World) (i : Nat) (num text item : Value) : Prop :=
  (i = 13 ∨ i = 14 → num = .nilFunc ∧ item = .nilFunc ∧ ∃ g, text = .func (.func g) #[] #[] ∧ TextFn g (textOf i)) ∧
  (17 ≤ i ∧ i ≤ 21 → num = .nilFunc ∧ text = .nilFunc ∧ ∃ g, item = .func (.func g) #[] #[] ∧ ItemFn g (itemOf i)) ∧
  (¬ (i = 13 ∨ i = 14) → ¬ (17 ≤ i ∧ i ≤ 21) → text = .nilFunc ∧ item = .nilFunc ∧ NumFn b w num (numOf i))
theorem FieldR.num {b : Nat} {w : World} {i : Nat} {v : Value} (h1 : ¬ (i = 13 ∨ i = 14)) (h2 : ¬ (17 ≤ i ∧ i ≤ 21)) (h : NumFn b w v (numOf i)) : FieldR b w i v .nilFunc .nilFunc :=
  ⟨fun k => absurd k h1, fun k => absurd k h2, fun _ _ => ⟨rfl, rfl, h⟩⟩
theorem FieldR.text {b : Nat} {w : World} {i g : Nat} (h1 : i = 13 ∨ i = 14) (h : TextFn g (textOf i)) : FieldR b w i .nilFunc (.func (.func g) #[] #[]) .nilFunc :=
  ⟨fun _ => ⟨rfl, rfl, g, rfl, h⟩, fun k => by omega, fun k => absurd h1 k⟩
theorem FieldR.item {b : Nat} {w : World} {i g : Nat} (h1 : 17 ≤ i ∧ i ≤ 21) (h : ItemFn g (itemOf i)) : FieldR b w i .nilFunc .nilFunc (.func (.func g) #[] #[]) :=
  ⟨fun k => by omega, fun _ => ⟨rfl, rfl, g, rfl, h⟩, fun _ k => absurd h1 k⟩
def FieldAt (b : Nat) (w : World) (vs : Array Value) (i : Nat) : Prop := ∃ nm num text item, vs[i * 4]? = some (.string nm) ∧ vs[i * 4 + 1]? = some num ∧ vs[i * 4 + 2]? = some text ∧ vs[i * 4 + 3]? = some item ∧ FieldR b w i num text item
def FieldsAre (b : Nat) (w : World) (v : Value) : Prop := ∃ vs, v = .agg vs ∧ vs.size = 92 ∧ ∀ i, 1 ≤ i → i ≤ 22 → FieldAt b w vs i
theorem fnShape {e : Ending} {w w' : World} {b B : Nat} {f : Ctx → Int × Bool} (h : ∃ v, e = .returned v ∧ NumFn b w' v f ∧ Below B w w') : ∃ g bs, e = .returned (.func (.func g) #[] bs) ∧ NumFn b w' (.func (.func g) #[] bs) f ∧ Below B w w' := by
  obtain ⟨v, he, hn, hb⟩ := h
  obtain ⟨g, bs, rfl, r⟩ := hn
  exact ⟨g, bs, he, ⟨g, bs, rfl, r⟩, hb⟩
theorem a_1 (b : Nat) (w : World) (hb : b ≤ w.heap.size) : Calls Tryz.prog 99 #[.func (.func 100) #[] #[]] w fun e w' => ∃ g bs, e = .returned (.func (.func g) #[] bs) ∧ NumFn b w' (.func (.func g) #[] bs) (numOf 1) ∧ Below w.heap.size w w' := (c_always _ _ _ b _ hb (i_pid.at b w)).mono fun _ _ h => fnShape h
theorem a_2 (b : Nat) (w : World) (hb : b ≤ w.heap.size) : Calls Tryz.prog 99 #[.func (.func 101) #[] #[]] w fun e w' => ∃ g bs, e = .returned (.func (.func g) #[] bs) ∧ NumFn b w' (.func (.func g) #[] bs) (numOf 2) ∧ Below w.heap.size w w' := (c_always _ _ _ b _ hb (i_ppid.at b w)).mono fun _ _ h => fnShape h
theorem a_3 (b : Nat) (w : World) (hb : b ≤ w.heap.size) : Calls Tryz.prog 99 #[.func (.func 102) #[] #[]] w fun e w' => ∃ g bs, e = .returned (.func (.func g) #[] bs) ∧ NumFn b w' (.func (.func g) #[] bs) (numOf 3) ∧ Below w.heap.size w w' := (c_always _ _ _ b _ hb (i_uid.at b w)).mono fun _ _ h => fnShape h
theorem a_4 (b : Nat) (w : World) (hb : b ≤ w.heap.size) : Calls Tryz.prog 99 #[.func (.func 103) #[] #[]] w fun e w' => ∃ g bs, e = .returned (.func (.func g) #[] bs) ∧ NumFn b w' (.func (.func g) #[] bs) (numOf 4) ∧ Below w.heap.size w w' := (c_always _ _ _ b _ hb (i_euid.at b w)).mono fun _ _ h => fnShape h
theorem a_5 (b : Nat) (w : World) (hb : b ≤ w.heap.size) : Calls Tryz.prog 99 #[.func (.func 104) #[] #[]] w fun e w' => ∃ g bs, e = .returned (.func (.func g) #[] bs) ∧ NumFn b w' (.func (.func g) #[] bs) (numOf 5) ∧ Below w.heap.size w w' := (c_always _ _ _ b _ hb (i_gid.at b w)).mono fun _ _ h => fnShape h
theorem a_6 (b : Nat) (w : World) (hb : b ≤ w.heap.size) : Calls Tryz.prog 99 #[.func (.func 105) #[] #[]] w fun e w' => ∃ g bs, e = .returned (.func (.func g) #[] bs) ∧ NumFn b w' (.func (.func g) #[] bs) (numOf 6) ∧ Below w.heap.size w w' := (c_always _ _ _ b _ hb (i_egid.at b w)).mono fun _ _ h => fnShape h
theorem a_7 (b : Nat) (w : World) (hb : b ≤ w.heap.size) : Calls Tryz.prog 99 #[.func (.func 106) #[] #[]] w fun e w' => ∃ g bs, e = .returned (.func (.func g) #[] bs) ∧ NumFn b w' (.func (.func g) #[] bs) (numOf 7) ∧ Below w.heap.size w w' := (c_always _ _ _ b _ hb (i_auid.at b w)).mono fun _ _ h => fnShape h
theorem a_8 (b : Nat) (w : World) (hb : b ≤ w.heap.size) : Calls Tryz.prog 99 #[.func (.func 107) #[] #[]] w fun e w' => ∃ g bs, e = .returned (.func (.func g) #[] bs) ∧ NumFn b w' (.func (.func g) #[] bs) (numOf 8) ∧ Below w.heap.size w w' := (c_always _ _ _ b _ hb (i_ses.at b w)).mono fun _ _ h => fnShape h
theorem a_15 (b : Nat) (w : World) (hb : b ≤ w.heap.size) : Calls Tryz.prog 111 #[.func (.func 112) #[] #[]] w fun e w' => ∃ g bs, e = .returned (.func (.func g) #[] bs) ∧ NumFn b w' (.func (.func g) #[] bs) (numOf 15) ∧ Below w.heap.size w w' := (c_atExit _ _ _ b _ hb (i_exit.at b w)).mono fun _ _ h => fnShape h
theorem a_16 (b : Nat) (w : World) (hb : b ≤ w.heap.size) : Calls Tryz.prog 111 #[.func (.func 113) #[] #[]] w fun e w' => ∃ g bs, e = .returned (.func (.func g) #[] bs) ∧ NumFn b w' (.func (.func g) #[] bs) (numOf 16) ∧ Below w.heap.size w w' := (c_atExit _ _ _ b _ hb (i_success.at b w)).mono fun _ _ h => fnShape h
theorem a_9 (b : Nat) (w : World) (hb : b ≤ w.heap.size) : Calls Tryz.prog 108 #[.int .i64 0] w fun e w' => ∃ g bs, e = .returned (.func (.func g) #[] bs) ∧ NumFn b w' (.func (.func g) #[] bs) (numOf 9) ∧ Below w.heap.size w w' := (c_argument0 b w hb).mono fun _ _ h => fnShape h
theorem a_10 (b : Nat) (w : World) (hb : b ≤ w.heap.size) : Calls Tryz.prog 108 #[.int .i64 1] w fun e w' => ∃ g bs, e = .returned (.func (.func g) #[] bs) ∧ NumFn b w' (.func (.func g) #[] bs) (numOf 10) ∧ Below w.heap.size w w' := (c_argument1 b w hb).mono fun _ _ h => fnShape h
theorem a_11 (b : Nat) (w : World) (hb : b ≤ w.heap.size) : Calls Tryz.prog 108 #[.int .i64 2] w fun e w' => ∃ g bs, e = .returned (.func (.func g) #[] bs) ∧ NumFn b w' (.func (.func g) #[] bs) (numOf 11) ∧ Below w.heap.size w w' := (c_argument2 b w hb).mono fun _ _ h => fnShape h
theorem a_12 (b : Nat) (w : World) (hb : b ≤ w.heap.size) : Calls Tryz.prog 108 #[.int .i64 3] w fun e w' => ∃ g bs, e = .returned (.func (.func g) #[] bs) ∧ NumFn b w' (.func (.func g) #[] bs) (numOf 12) ∧ Below w.heap.size w w' := (c_argument3 b w hb).mono fun _ _ h => fnShape h
theorem x_13 : TextFn 109 (textOf 13) := ⟨enters_of Tryz.func109 (by kernel_rfl) rfl, t_exe⟩
theorem x_14 : TextFn 110 (textOf 14) := ⟨enters_of Tryz.func110 (by kernel_rfl) rfl, t_comm⟩
theorem x_17 : ItemFn 114 (itemOf 17) := ⟨enters_of Tryz.func114 (by kernel_rfl) rfl, y_fi⟩
theorem x_18 : ItemFn 115 (itemOf 18) := ⟨enters_of Tryz.func115 (by kernel_rfl) rfl, y_fd⟩
theorem x_19 : ItemFn 116 (itemOf 19) := ⟨enters_of Tryz.func116 (by kernel_rfl) rfl, y_uid⟩
theorem x_20 : ItemFn 117 (itemOf 20) := ⟨enters_of Tryz.func117 (by kernel_rfl) rfl, y_gid⟩
theorem x_21 : ItemFn 118 (itemOf 21) := ⟨enters_of Tryz.func118 (by kernel_rfl) rfl, y_kind⟩
def Stand (b g : Nat) (o : Obj) (w : World) : Prop := b ≤ w.heap.size ∧ w.heap[g]? = some o
theorem Stand.next {b g : Nat} {o : Obj} {w w' : World} (h : Stand b g o w) (hb : Below w.heap.size w w') : Stand b g o w' := ⟨Nat.le_trans h.1 hb.size, (hb.block g (lt_of_some h.2)).trans h.2⟩
theorem results_cell {P : Program} {fn : Func} {tmps : Array Value} {w : World} {i t g : Nat} {v : Value} (hr : fn.results = #[.cell i t]) (ht : tmps.getD i undef = .pointer (some ⟨g, 0, none⟩)) (hl : (loadVar t ⟨g, 0, none⟩).run P w = .ok v w) : (results fn tmps).run P w = .ok v w := by
  have ht' : tmps[i]?.getD undef = .pointer (some ⟨g, 0, none⟩) := by simpa using ht
  simp [results, hr, ht', hl, asAddr]
theorem bset {B g : Nat} {w0 w : World} (hb : Below B w0 w) (h : B ≤ g) (cs : Array Value) : Below B w0 (w.setRow g cs) :=
  ⟨hb.os, hb.tape, hb.output, by simpa using hb.size, fun i hi => (setRow_other w g i cs (by omega)).trans (hb.block i hi)⟩
theorem bchain {w W V : World} (h : Below w.heap.size w W) (k : Below W.heap.size W V) : Below w.heap.size w V := h.trans (k.mono h.size)
theorem Kept.setRow' {b : Nat} {w W : World} (h : Kept b w W) (g : Nat) (cs : Array Value) (hg : g < b) : Kept b w (W.setRow g cs) :=
  ⟨by simpa using h.1, fun i hi hj => (setRow_other W g i cs (by omega)).trans (h.2 i hi hj)⟩
attribute [local irreducible] ArgFn NumFn IntFn
set_option maxRecDepth 100000 in
set_option maxHeartbeats 2000000 in
theorem c_fields (w : World) :
    Calls Tryz.prog 83 #[] w fun e w' => ∃ v, e = .returned v ∧ FieldsAre (w.heap.size + 1) w' v ∧ Below w.heap.size w w' := by
  have hb0 := (Below.refl w.heap.size w).alloc (Nat.le_refl _) (Obj.cells Tryz.zeroCells119 119)
  have HB := Lib.hid hb0
  clear hb0
  have HZ0 : Hid (Stand (w.heap.size + 1) w.heap.size (Obj.cells Tryz.zeroCells119 119) (w.alloc (Obj.cells Tryz.zeroCells119 119))) := Lib.hid ⟨by simp, heap_new w _⟩
  obtain ⟨b, hbdef⟩ : ∃ b, b = w.heap.size + 1 := ⟨_, rfl⟩
  rw [← hbdef] at HZ0 ⊢
  replace hbdef := Lib.hid hbdef
  go_enter Tryz.func83, Tryz.ntmps83
  go_wp2_with (first
    | (go_at_call 99; refine (a_1 b _ HZ0.out.1).mono ?_; rintro e w1 ⟨g1, bs1, rfl, hn1, hb1⟩; have HZ1 := Lib.hid (HZ0.out.next hb1); replace hb1 := Lib.hid hb1; replace hn1 := Lib.hid hn1)
    | (go_at_call 99; refine (a_2 b _ HZ1.out.1).mono ?_; rintro e w2 ⟨g2, bs2, rfl, hn2, hb2⟩; have HZ2 := Lib.hid (HZ1.out.next hb2); replace hb2 := Lib.hid hb2; replace hn2 := Lib.hid hn2)
    | (go_at_call 99; refine (a_3 b _ HZ2.out.1).mono ?_; rintro e w3 ⟨g3, bs3, rfl, hn3, hb3⟩; have HZ3 := Lib.hid (HZ2.out.next hb3); replace hb3 := Lib.hid hb3; replace hn3 := Lib.hid hn3)
    | (go_at_call 99; refine (a_4 b _ HZ3.out.1).mono ?_; rintro e w4 ⟨g4, bs4, rfl, hn4, hb4⟩; have HZ4 := Lib.hid (HZ3.out.next hb4); replace hb4 := Lib.hid hb4; replace hn4 := Lib.hid hn4)
    | (go_at_call 99; refine (a_5 b _ HZ4.out.1).mono ?_; rintro e w5 ⟨g5, bs5, rfl, hn5, hb5⟩; have HZ5 := Lib.hid (HZ4.out.next hb5); replace hb5 := Lib.hid hb5; replace hn5 := Lib.hid hn5)
    | (go_at_call 99; refine (a_6 b _ HZ5.out.1).mono ?_; rintro e w6 ⟨g6, bs6, rfl, hn6, hb6⟩; have HZ6 := Lib.hid (HZ5.out.next hb6); replace hb6 := Lib.hid hb6; replace hn6 := Lib.hid hn6)
    | (go_at_call 99; refine (a_7 b _ HZ6.out.1).mono ?_; rintro e w7 ⟨g7, bs7, rfl, hn7, hb7⟩; have HZ7 := Lib.hid (HZ6.out.next hb7); replace hb7 := Lib.hid hb7; replace hn7 := Lib.hid hn7)
    | (go_at_call 99; refine (a_8 b _ HZ7.out.1).mono ?_; rintro e w8 ⟨g8, bs8, rfl, hn8, hb8⟩; have HZ8 := Lib.hid (HZ7.out.next hb8); replace hb8 := Lib.hid hb8; replace hn8 := Lib.hid hn8)
    | (go_at_call 108; refine (a_9 b _ HZ8.out.1).mono ?_; rintro e w9 ⟨g9, bs9, rfl, hn9, hb9⟩; have HZ9 := Lib.hid (HZ8.out.next hb9); replace hb9 := Lib.hid hb9; replace hn9 := Lib.hid hn9)
    | (go_at_call 108; refine (a_10 b _ HZ9.out.1).mono ?_; rintro e w10 ⟨g10, bs10, rfl, hn10, hb10⟩; have HZ10 := Lib.hid (HZ9.out.next hb10); replace hb10 := Lib.hid hb10; replace hn10 := Lib.hid hn10)
    | (go_at_call 108; refine (a_11 b _ HZ10.out.1).mono ?_; rintro e w11 ⟨g11, bs11, rfl, hn11, hb11⟩; have HZ11 := Lib.hid (HZ10.out.next hb11); replace hb11 := Lib.hid hb11; replace hn11 := Lib.hid hn11)
    | (go_at_call 108; refine (a_12 b _ HZ11.out.1).mono ?_; rintro e w12 ⟨g12, bs12, rfl, hn12, hb12⟩; have HZ12 := Lib.hid (HZ11.out.next hb12); replace hb12 := Lib.hid hb12; replace hn12 := Lib.hid hn12)
    | (go_at_call 111; refine (a_15 b _ HZ12.out.1).mono ?_; rintro e w15 ⟨g15, bs15, rfl, hn15, hb15⟩; have HZ15 := Lib.hid (HZ12.out.next hb15); replace hb15 := Lib.hid hb15; replace hn15 := Lib.hid hn15)
    | (go_at_call 111; refine (a_16 b _ HZ15.out.1).mono ?_; rintro e w16 ⟨g16, bs16, rfl, hn16, hb16⟩; have HZ16 := Lib.hid (HZ15.out.next hb16); replace hb16 := Lib.hid hb16; replace hn16 := Lib.hid hn16)
    | (refine wpList_build (by rfl) 119 _ (by rfl) (by kernel_rfl) ?_; generalize hV : (Program.built Tryz.prog 119 _).getD #[] = V; replace hV := Lib.hid hV)
    | (refine wpList_store_row (by rfl) 119 _ _ (by rfl) w.heap.size V (by rfl) (by rfl) 119 Tryz.zeroCells119 HZ16.out.2 (by rw [← hV.out]; kernel_rfl) (by rw [← hV.out]; kernel_rfl) (by rw [← hV.out]; kernel_rfl) ?_))
  have HV := hV.out
  clear hV
  have hst := HZ16.out.2
  have hbd := hbdef.out
  have B0 := HB.out
  have B1 := bchain B0 hb1.out
  have B2 := bchain B1 hb2.out
  have B3 := bchain B2 hb3.out
  have B4 := bchain B3 hb4.out
  have B5 := bchain B4 hb5.out
  have B6 := bchain B5 hb6.out
  have B7 := bchain B6 hb7.out
  have B8 := bchain B7 hb8.out
  have B9 := bchain B8 hb9.out
  have B10 := bchain B9 hb10.out
  have B11 := bchain B10 hb11.out
  have B12 := bchain B11 hb12.out
  have B15 := bchain B12 hb15.out
  have B16 := bchain B15 hb16.out
  have BF := bset (g := w.heap.size) B16 (Nat.le_refl _) V
  have k16 : Kept b w16 (w16.setRow w.heap.size V) := (Kept.refl b w16).setRow' _ V (by omega)
  have k15 := (Kept.below (b := b) hb16.out (Nat.le_refl _)).trans k16
  have k12 := (Kept.below (b := b) hb15.out (Nat.le_refl _)).trans k15
  have k11 := (Kept.below (b := b) hb12.out (Nat.le_refl _)).trans k12
  have k10 := (Kept.below (b := b) hb11.out (Nat.le_refl _)).trans k11
  have k9 := (Kept.below (b := b) hb10.out (Nat.le_refl _)).trans k10
  have k8 := (Kept.below (b := b) hb9.out (Nat.le_refl _)).trans k9
  have k7 := (Kept.below (b := b) hb8.out (Nat.le_refl _)).trans k8
  have k6 := (Kept.below (b := b) hb7.out (Nat.le_refl _)).trans k7
  have k5 := (Kept.below (b := b) hb6.out (Nat.le_refl _)).trans k6
  have k4 := (Kept.below (b := b) hb5.out (Nat.le_refl _)).trans k5
  have k3 := (Kept.below (b := b) hb4.out (Nat.le_refl _)).trans k4
  have k2 := (Kept.below (b := b) hb3.out (Nat.le_refl _)).trans k3
  have k1 := (Kept.below (b := b) hb2.out (Nat.le_refl _)).trans k2
  have hsz : V.size = 92 := by rw [← HV]; kernel_rfl
  have hl : (loadVar 119 ⟨w.heap.size, 0, none⟩).run Tryz.prog (w16.setRow w.heap.size V) = .ok (.agg V) (w16.setRow w.heap.size V) := run_loadVar_row _ _ 119 119 V (0, 0) (hg := setRow_heap _ _ _ V 119 (0, 0) hst) (d := .array 23 98) (hu := by kernel_rfl) (hd := rfl) (hi := by rw [hsz]; kernel_rfl)
  refine bodyPost_ret (v := .agg V) (results_cell (i := 0) (by kernel_rfl) (by rfl) hl) rfl ?_
  refine ⟨_, rfl, ⟨V, rfl, hsz, fun i h1 h2 => ?_⟩, BF⟩
  clear hl BF hst
  have hi : i = 1 ∨ i = 2 ∨ i = 3 ∨ i = 4 ∨ i = 5 ∨ i = 6 ∨ i = 7 ∨ i = 8 ∨ i = 9 ∨ i = 10 ∨ i = 11 ∨ i = 12 ∨ i = 13 ∨ i = 14 ∨ i = 15 ∨ i = 16 ∨ i = 17 ∨ i = 18 ∨ i = 19 ∨ i = 20 ∨ i = 21 ∨ i = 22 := by omega
  rcases hi with rfl | rfl | rfl | rfl | rfl | rfl | rfl | rfl | rfl | rfl | rfl | rfl | rfl | rfl | rfl | rfl | rfl | rfl | rfl | rfl | rfl | rfl
  · exact ⟨⟨#[112, 105, 100]⟩, .func (.func g1) #[] bs1, .nilFunc, .nilFunc, by rw [← HV]; kernel_rfl, by rw [← HV]; kernel_rfl, by rw [← HV]; kernel_rfl, by rw [← HV]; kernel_rfl, FieldR.num (by omega) (by omega) (hn1.out.kept k1)⟩
  · exact ⟨⟨#[112, 112, 105, 100]⟩, .func (.func g2) #[] bs2, .nilFunc, .nilFunc, by rw [← HV]; kernel_rfl, by rw [← HV]; kernel_rfl, by rw [← HV]; kernel_rfl, by rw [← HV]; kernel_rfl, FieldR.num (by omega) (by omega) (hn2.out.kept k2)⟩
  · exact ⟨⟨#[117, 105, 100]⟩, .func (.func g3) #[] bs3, .nilFunc, .nilFunc, by rw [← HV]; kernel_rfl, by rw [← HV]; kernel_rfl, by rw [← HV]; kernel_rfl, by rw [← HV]; kernel_rfl, FieldR.num (by omega) (by omega) (hn3.out.kept k3)⟩
  · exact ⟨⟨#[101, 117, 105, 100]⟩, .func (.func g4) #[] bs4, .nilFunc, .nilFunc, by rw [← HV]; kernel_rfl, by rw [← HV]; kernel_rfl, by rw [← HV]; kernel_rfl, by rw [← HV]; kernel_rfl, FieldR.num (by omega) (by omega) (hn4.out.kept k4)⟩
  · exact ⟨⟨#[103, 105, 100]⟩, .func (.func g5) #[] bs5, .nilFunc, .nilFunc, by rw [← HV]; kernel_rfl, by rw [← HV]; kernel_rfl, by rw [← HV]; kernel_rfl, by rw [← HV]; kernel_rfl, FieldR.num (by omega) (by omega) (hn5.out.kept k5)⟩
  · exact ⟨⟨#[101, 103, 105, 100]⟩, .func (.func g6) #[] bs6, .nilFunc, .nilFunc, by rw [← HV]; kernel_rfl, by rw [← HV]; kernel_rfl, by rw [← HV]; kernel_rfl, by rw [← HV]; kernel_rfl, FieldR.num (by omega) (by omega) (hn6.out.kept k6)⟩
  · exact ⟨⟨#[97, 117, 105, 100]⟩, .func (.func g7) #[] bs7, .nilFunc, .nilFunc, by rw [← HV]; kernel_rfl, by rw [← HV]; kernel_rfl, by rw [← HV]; kernel_rfl, by rw [← HV]; kernel_rfl, FieldR.num (by omega) (by omega) (hn7.out.kept k7)⟩
  · exact ⟨⟨#[115, 101, 115]⟩, .func (.func g8) #[] bs8, .nilFunc, .nilFunc, by rw [← HV]; kernel_rfl, by rw [← HV]; kernel_rfl, by rw [← HV]; kernel_rfl, by rw [← HV]; kernel_rfl, FieldR.num (by omega) (by omega) (hn8.out.kept k8)⟩
  · exact ⟨⟨#[97, 48]⟩, .func (.func g9) #[] bs9, .nilFunc, .nilFunc, by rw [← HV]; kernel_rfl, by rw [← HV]; kernel_rfl, by rw [← HV]; kernel_rfl, by rw [← HV]; kernel_rfl, FieldR.num (by omega) (by omega) (hn9.out.kept k9)⟩
  · exact ⟨⟨#[97, 49]⟩, .func (.func g10) #[] bs10, .nilFunc, .nilFunc, by rw [← HV]; kernel_rfl, by rw [← HV]; kernel_rfl, by rw [← HV]; kernel_rfl, by rw [← HV]; kernel_rfl, FieldR.num (by omega) (by omega) (hn10.out.kept k10)⟩
  · exact ⟨⟨#[97, 50]⟩, .func (.func g11) #[] bs11, .nilFunc, .nilFunc, by rw [← HV]; kernel_rfl, by rw [← HV]; kernel_rfl, by rw [← HV]; kernel_rfl, by rw [← HV]; kernel_rfl, FieldR.num (by omega) (by omega) (hn11.out.kept k11)⟩
  · exact ⟨⟨#[97, 51]⟩, .func (.func g12) #[] bs12, .nilFunc, .nilFunc, by rw [← HV]; kernel_rfl, by rw [← HV]; kernel_rfl, by rw [← HV]; kernel_rfl, by rw [← HV]; kernel_rfl, FieldR.num (by omega) (by omega) (hn12.out.kept k12)⟩
  · exact ⟨⟨#[101, 120, 101]⟩, .nilFunc, .func (.func 109) #[] #[], .nilFunc, by rw [← HV]; kernel_rfl, by rw [← HV]; kernel_rfl, by rw [← HV]; kernel_rfl, by rw [← HV]; kernel_rfl, FieldR.text (by omega) x_13⟩
  · exact ⟨⟨#[99, 111, 109, 109]⟩, .nilFunc, .func (.func 110) #[] #[], .nilFunc, by rw [← HV]; kernel_rfl, by rw [← HV]; kernel_rfl, by rw [← HV]; kernel_rfl, by rw [← HV]; kernel_rfl, FieldR.text (by omega) x_14⟩
  · exact ⟨⟨#[101, 120, 105, 116]⟩, .func (.func g15) #[] bs15, .nilFunc, .nilFunc, by rw [← HV]; kernel_rfl, by rw [← HV]; kernel_rfl, by rw [← HV]; kernel_rfl, by rw [← HV]; kernel_rfl, FieldR.num (by omega) (by omega) (hn15.out.kept k15)⟩
  · exact ⟨⟨#[115, 117, 99, 99, 101, 115, 115]⟩, .func (.func g16) #[] bs16, .nilFunc, .nilFunc, by rw [← HV]; kernel_rfl, by rw [← HV]; kernel_rfl, by rw [← HV]; kernel_rfl, by rw [← HV]; kernel_rfl, FieldR.num (by omega) (by omega) (hn16.out.kept k16)⟩
  · exact ⟨⟨#[105, 110, 111, 100, 101]⟩, .nilFunc, .nilFunc, .func (.func 114) #[] #[], by rw [← HV]; kernel_rfl, by rw [← HV]; kernel_rfl, by rw [← HV]; kernel_rfl, by rw [← HV]; kernel_rfl, FieldR.item (by omega) x_17⟩
  · exact ⟨⟨#[100, 101, 118]⟩, .nilFunc, .nilFunc, .func (.func 115) #[] #[], by rw [← HV]; kernel_rfl, by rw [← HV]; kernel_rfl, by rw [← HV]; kernel_rfl, by rw [← HV]; kernel_rfl, FieldR.item (by omega) x_18⟩
  · exact ⟨⟨#[111, 98, 106, 95, 117, 105, 100]⟩, .nilFunc, .nilFunc, .func (.func 116) #[] #[], by rw [← HV]; kernel_rfl, by rw [← HV]; kernel_rfl, by rw [← HV]; kernel_rfl, by rw [← HV]; kernel_rfl, FieldR.item (by omega) x_19⟩
  · exact ⟨⟨#[111, 98, 106, 95, 103, 105, 100]⟩, .nilFunc, .nilFunc, .func (.func 117) #[] #[], by rw [← HV]; kernel_rfl, by rw [← HV]; kernel_rfl, by rw [← HV]; kernel_rfl, by rw [← HV]; kernel_rfl, FieldR.item (by omega) x_20⟩
  · exact ⟨⟨#[107, 105, 110, 100]⟩, .nilFunc, .nilFunc, .func (.func 118) #[] #[], by rw [← HV]; kernel_rfl, by rw [← HV]; kernel_rfl, by rw [← HV]; kernel_rfl, by rw [← HV]; kernel_rfl, FieldR.item (by omega) x_21⟩
  · exact ⟨⟨#[116, 121, 112, 101]⟩, .func (.func 119) #[] #[], .nilFunc, .nilFunc, by rw [← HV]; kernel_rfl, by rw [← HV]; kernel_rfl, by rw [← HV]; kernel_rfl, by rw [← HV]; kernel_rfl, FieldR.num (by omega) (by omega) (n_type b _)⟩
end Go.Proofs.YtnbfenapnfbmeaaGreat
