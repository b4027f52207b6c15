/- Contracts: the source of names and paths (kauditmake). -/
import Derived.Test.YtnbfenapnfbmeaaGreatK3
import Derived.Test.YtnbfenapnfbmeaaGreatE1
set_option linter.unusedSimpArgs false
set_option linter.unusedVariables false
namespace Go.Proofs.YtnbfenapnfbmeaaGreat
open Go.RowKit
def Ascii (s : ByteArray) : Prop := ∀ x ∈ s.toList, x.toNat < 128
theorem ascii_cat {s y : ByteArray} (hs : Ascii s) (hy : Ascii y) : Ascii (s ++ y) := by
  intro x hx
  rw [ByteArray.toList_eq] at hx
  have hx2 : x ∈ s.data.toList ++ y.data.toList := by simpa using hx
  rcases List.mem_append.1 hx2 with h | h
  · exact hs x (by rw [ByteArray.toList_eq]; exact h)
  · exact hy x (by rw [ByteArray.toList_eq]; exact h)
theorem ascii_slash : Ascii ⟨#[47]⟩ := by unfold Ascii; decide +kernel
theorem ascii_nil : Ascii ⟨#[]⟩ := by unfold Ascii; decide +kernel
/-- A short text of ASCII. -/
def TextPost (W : World) (p : Nat) (la : Option Addr) (xs : List Int) (lc n B k : Nat) (e : Ending) (W' : World) : Prop :=
  ∃ (s : ByteArray) (n' : Nat), e = .returned (.string s) ∧ s.size ≤ B ∧ Ascii s ∧ Mill W p la xs lc n k W' n'
theorem names1 : ∀ y ∈ ([⟨#[]⟩, ⟨#[46]⟩, ⟨#[46, 46]⟩, ⟨#[97, 47, 98]⟩, ⟨#[97, 98, 99, 100, 101, 102, 103, 104, 105, 106, 107, 108]⟩, ⟨#[97, 98, 99, 100, 101, 102, 103, 104, 105, 106, 107, 108, 109]⟩, ⟨#[97, 0]⟩, ⟨#[126]⟩] : List ByteArray), y.size ≤ 13 ∧ Ascii y := by unfold Ascii; decide +kernel
theorem names2 : ∀ y ∈ ([⟨#[97]⟩, ⟨#[98]⟩, ⟨#[99]⟩, ⟨#[100]⟩, ⟨#[108]⟩, ⟨#[109]⟩] : List ByteArray), y.size ≤ 13 ∧ Ascii y := by unfold Ascii; decide +kernel
theorem names3 : ∀ y ∈ ([⟨#[46]⟩, ⟨#[46, 46]⟩, ⟨#[]⟩, ⟨#[97, 47, 47, 98]⟩] : List ByteArray), y.size ≤ 13 ∧ Ascii y := by unfold Ascii; decide +kernel
set_option maxRecDepth 100000 in
set_option maxHeartbeats 1000000 in
theorem c_name (p : Nat) (la : Option Addr) (xs : List Int) (lc n : Nat) (W : World) (hS : Src W p la xs lc n) (hn : n ≤ 999999000) :
    Calls Tryz.prog 58 #[.pointer (some ⟨p, 0, none⟩)] W (TextPost W p la xs lc n 13 2) := by
  have HS := Lib.hid (Mill.start hS)
  clear hS
  go_enter Tryz.func58, Tryz.ntmps58
  go_wp2_with (first
    | (go_at_call 11; refine (c_n p la xs lc n _ _ HS.out.src (by omega) (by decide) (by decide)).mono ?_; rintro e w1 ⟨x, n1, rfl, ⟨hx1, hx2⟩, hS', hn', hm'⟩; have H1 := Lib.hid (HS.out.step hS' hn' hm'); have hn1 : n1 ≤ n + 1 := hn'; clear hS' hn' hm')
    | (go_at_call 41; refine (c_wordA p la xs lc n1 _ _ _ H1.out.src (by omega) (by kernel_rfl) (by kernel_rfl) (by decide) (by decide)).mono ?_; rintro e w2 ⟨y, n2, rfl, hy, hS', hn2, hm'⟩; have HY := Lib.hid hy; have H2 := Lib.hid (H1.out.step hS' hn2 hm'); clear hS' hm' hy))
  · go_ret
    exact ⟨y, _, rfl, (names1 y HY.out).1, (names1 y HY.out).2, H2.out⟩
  · go_ret
    exact ⟨y, _, rfl, (names2 y HY.out).1, (names2 y HY.out).2, H2.out⟩
theorem picks_path : ∀ x ∈ ([1, 1, 2, 2, 3, 0, 4] : List Int), 0 ≤ x ∧ x ≤ 4 := by decide
set_option maxRecDepth 100000 in
set_option maxHeartbeats 2000000 in
theorem c_path (p : Nat) (la : Option Addr) (xs : List Int) (lc n : Nat) (W : World) (hS : Src W p la xs lc n) (hn : n ≤ 999998000) :
    Calls Tryz.prog 57 #[.pointer (some ⟨p, 0, none⟩)] W (TextPost W p la xs lc n 60 20) := by
  have HS := Lib.hid (Mill.start hS)
  clear hS
  go_enter Tryz.func57, Tryz.ntmps57
  go_upto_region 2 with fail
  go_cut [8] (fun s8 wc => ∃ (q : Bool) (n1 : Nat), s8 = .bool q ∧ Aside (Mill W p la xs lc n 1 wc n1))
  case first =>
    go_wp2_with (go_at_call 11; refine (c_n p la xs lc n _ _ HS.out.src (by omega) (by decide) (by decide)).mono ?_; rintro e w1 ⟨x, n1, rfl, ⟨hx1, hx2⟩, hS', hn', hm'⟩; have H1 := Lib.hid (HS.out.step hS' hn' hm'); clear hS' hn' hm')
    go_meet
    exact ⟨_, _, rfl, H1.out⟩
  case rest =>
    obtain ⟨q, n1, rfl, HM1⟩ := hcut
    clear HS
    have HM := Lib.hid (show Mill W p la xs lc n 1 wc n1 from HM1)
    have hn1 := HM.out.le
    clear HM1
    go_upto_if 8 with fail
    go_cut [3] (fun s3 wc => ∃ (s : ByteArray) (n1 : Nat), s3 = .string s ∧ s.size ≤ 1 ∧ Aside (Ascii s) ∧ Aside (Mill W p la xs lc n 1 wc n1))
    case first =>
      cases q
      · go_wp2
        go_meet
        exact ⟨_, _, rfl, by decide, ascii_nil, HM.out⟩
      · go_wp2
        go_meet
        exact ⟨_, _, rfl, by decide, ascii_slash, HM.out⟩
    case rest =>
      clear HM hn1
      obtain ⟨s, n1, rfl, hs, HA1, HM1⟩ := hcut
      have HA := Lib.hid HA1
      have HM := Lib.hid (show Mill W p la xs lc n 1 wc n1 from HM1)
      have hn1 := HM.out.le
      clear HM1 HA1
      go_upto_block 0 with (go_at_call 31; refine (c_pickA p la xs lc n1 _ _ _ HM.out.src (by omega) (by kernel_rfl) (by kernel_rfl) (by decide) (by decide)).mono ?_; rintro e w1 ⟨x, n2, rfl, hx, hS', hn', hm'⟩; obtain ⟨hx1, hx2⟩ := picks_path x hx; have H1 := Lib.hid (HM.out.step hS' hn' hm'); have hn2 := H1.out.le; clear hS' hn' hm' hx)
      go_wp2
      go_loopg [3, 5] 4 (fun gg s3 s5 wr => ∃ (k : Nat) (s : ByteArray) (n' : Nat), k + gg = 4 ∧ s3 = .string s ∧ s5 = .int .i64 k ∧ (k : Int) ≤ x ∧ s.size ≤ 1 + 14 * k ∧ Aside (Ascii s) ∧ Aside (Mill W p la xs lc n (2 + 4 * k) wr n'))
      case atStart => exact ⟨0, s, _, rfl, rfl, rfl, by omega, by omega, HA.out, H1.out.up (by omega)⟩
      case round =>
        clear HA H1 hn2 hs
        obtain ⟨k, s, n3, hg, rfl, rfl, hk, hs, HA1, HM1⟩ := hrel
        have HA := Lib.hid HA1
        have H1 := Lib.hid (show Mill W p la xs lc n (2 + 4 * k) wr n3 from HM1)
        have hn3 := H1.out.le
        clear HA1 HM1
        by_cases hlt : (k : Int) < x
        · have hs57 : s.size ≤ 57 := by omega
          go_upto_if 18 with fail
          go_cut [3] (fun s3 wc => ∃ (s : ByteArray), s3 = .string s ∧ s.size ≤ 2 + 14 * k ∧ Aside (Ascii s) ∧ Aside (Mill W p la xs lc n (2 + 4 * k) wc n3))
          case first =>
            go_wp2
            · go_meet
              exact ⟨_, rfl, by rw [ByteArray.size_append]; show s.size + 1 ≤ _; omega, ascii_cat HA.out ascii_slash, H1.out⟩
            · go_meet
              exact ⟨_, rfl, by omega, HA.out, H1.out⟩
          case rest =>
            clear HA H1 hs hs57
            obtain ⟨s, rfl, hs, HA1, HM1⟩ := hcut
            have HA := Lib.hid HA1
            have H1 := Lib.hid (show Mill W p la xs lc n (2 + 4 * k) wc n3 from HM1)
            clear HA1 HM1
            have hs58 : s.size ≤ 58 := by omega
            go_upto_if 23 with (go_at_call 11; refine (c_n p la xs lc n3 _ _ H1.out.src (by omega) (by decide) (by decide)).mono ?_; rintro e w4 ⟨y, n4, rfl, ⟨hy1, hy2⟩, hS', hn', hm'⟩; have H4 := Lib.hid (H1.out.step hS' hn' hm'); have hn4 := H4.out.le; clear hS' hn' hm')
            go_wp2_with (first
              | (go_at_call 41; refine (c_wordA p la xs lc n4 _ _ _ H4.out.src (by omega) (by kernel_rfl) (by kernel_rfl) (by decide) (by decide)).mono ?_; rintro e w5 ⟨y, n5, rfl, hy, hS', hn5, hm'⟩; have HY := Lib.hid (names3 y hy); have hy13 := HY.out.1; have H5 := Lib.hid ((H4.out.step hS' hn5 hm').up (j := 5 + 4 * k) (by omega)); clear hS' hm' hy)
              | (go_at_call 58; refine (c_name p la xs lc n4 _ H4.out.src (by omega)).mono ?_; rintro e w5 ⟨y, n5, rfl, hy13, hya, ⟨hS', hn5, hm'⟩⟩; have HY := Lib.hid (And.intro hy13 hya); have H5 := Lib.hid ((H4.out.step hS' hn5 hm').up (j := 5 + 4 * k) (by omega)); clear hS' hm' hya))
            all_goals
              go_roundg (gk - 1)
              case measure => omega
              case rel => exact ⟨k + 1, _, n5, by omega, rfl, by go_num, by omega, by rw [ByteArray.size_append]; omega, ascii_cat HA.out HY.out.2, H5.out.up (by omega)⟩
        · have hs57 : s.size ≤ 57 := by omega
          go_upto_if 35 with (go_at_call 11; refine (c_n p la xs lc n3 _ _ H1.out.src (by omega) (by decide) (by decide)).mono ?_; rintro e w4 ⟨y, n4, rfl, ⟨hy1, hy2⟩, hS', hn', hm'⟩; have H4 := Lib.hid (H1.out.step hS' hn' hm'); have hn4 := H4.out.le; clear hS' hn' hm')
          go_wp2
          · go_ret
            exact ⟨_, _, rfl, by rw [ByteArray.size_append]; show s.size + 1 ≤ _; omega, ascii_cat HA.out ascii_slash, H4.out.up (by omega)⟩
          · go_ret
            exact ⟨_, _, rfl, by omega, HA.out, H4.out.up (by omega)⟩
end Go.Proofs.YtnbfenapnfbmeaaGreat
/- Contracts: the source of processes (kauditmake). -/
set_option linter.unusedSimpArgs false
set_option linter.unusedVariables false
namespace Go.Proofs.YtnbfenapnfbmeaaGreat
open Go.RowKit
structure Proc where
  pid : Int
  ppid : Int
  uid : Int
  euid : Int
  gid : Int
  egid : Int
  auid : Int
  ses : Int
  cd : Int
  ci : Int
  comm : ByteArray
  exe : ByteArray
  audited : Bool
abbrev Proc.vs (x : Proc) : Array Value := #[.int .i64 x.pid, .int .i64 x.ppid, .int .i64 x.uid, .int .i64 x.euid, .int .i64 x.gid, .int .i64 x.egid, .int .i64 x.auid, .int .i64 x.ses, .int .i64 x.cd, .int .i64 x.ci, .string x.comm, .string x.exe, .slice none 0 0, .bool x.audited]
abbrev tProc : TypeId := 31
abbrev pbox (x : Proc) : Obj := .cells x.vs tProc
def zeroP : Proc := ⟨0, 0, 0, 0, 0, 0, 0, 0, 0, 0, ⟨#[]⟩, ⟨#[]⟩, false⟩
def ids : List Int := [0, 0, 5, 7, 1000, 4294967295]
abbrev idsBox : Obj := .cells #[.int .i64 0, .int .i64 0, .int .i64 5, .int .i64 7, .int .i64 1000, .int .i64 4294967295] tInt
theorem row_box {α : Type} {W : World} {E : TypeId} {f : α → Value} {ys : List α} {b : Nat} {cells : Array Value} (h : W.heap[b]? = some (.cells cells E)) (hc : cells = (ys.map f).toArray) : RowAt W E 1 (fun x => [f x]) (some ⟨b, 0, none⟩) ys := by
  intro j hj
  refine ⟨b, 0, cells, (0, 0), rfl, h, fun i v hv => ?_⟩
  have hi : i = 0 := by
    have := (List.getElem?_eq_some_iff.1 hv).1
    simp at this
    exact this
  subst hi
  simp at hv
  subst hv
  subst hc
  simp [hj]
theorem c_pickB (p : Nat) (la : Option Addr) (xs : List Int) (lc n b : Nat) (W : World) (hS : Src W p la xs lc n) (hn : n ≤ 999999999) (hb : W.heap[b]? = some idsBox) :
    Calls Tryz.prog 31 #[.pointer (some ⟨p, 0, none⟩), .slice (some ⟨b, 0, none⟩) 6 6] W (NPost W p la xs lc n 1 (fun x => x ∈ ids)) :=
  c_pick p la xs lc n (some ⟨b, 0, none⟩) ids 6 W hS hn (row_box (f := fun x => Value.int .i64 x) hb rfl) (by decide) (by decide)
def ProcPost (W : World) (p : Nat) (la : Option Addr) (xs : List Int) (lc n k : Nat) (e : Ending) (W' : World) : Prop :=
  ∃ (x : Proc) (n' : Nat), e = .returned (.agg x.vs) ∧ Mill W p la xs lc n k W' n'
set_option maxRecDepth 100000 in
set_option maxHeartbeats 2000000 in
theorem c_identities (p : Nat) (la : Option Addr) (xs : List Int) (lc n : Nat) (W : World) (hS : Src W p la xs lc n) (hn : n ≤ 999999000) :
    Calls Tryz.prog 29 #[.pointer (some ⟨p, 0, none⟩)] W (ProcPost W p la xs lc n 20) := by
  have HS := Lib.hid (((St.start hS).new (pbox zeroP)).new idsBox)
  clear hS
  go_enter Tryz.func29, Tryz.ntmps29
  go_upto_region 2 with fail
  obtain ⟨W1, hW1⟩ : ∃ W1, W1 = (W.alloc (pbox zeroP)).alloc idsBox := ⟨_, rfl⟩
  change Code.wp _ _ _ _ ((W.alloc (pbox zeroP)).alloc idsBox)
  rw [← hW1] at HS ⊢
  clear hW1
  rw [World.size_alloc] at HS
  have hle := HS.out.mill.le
  go_wp2_with (first
    | (go_at_call 28; refine (c_range p la xs lc _ _ _ _ HS.out.mill.src (by omega) (by decide) (by decide) (by decide)).mono ?_; rintro e w1 ⟨x1, n1, rfl, _, hS', hn', hm'⟩; have HS1 := Lib.hid (HS.out.step 1 hS' hn' hm'); have hle := HS1.out.mill.le; clear HS; have HS := HS1; clear HS1 hS' hn' hm')
    | (go_at_call 11; refine (c_n p la xs lc _ _ _ HS.out.mill.src (by omega) (by decide) (by decide)).mono ?_; rintro e w1 ⟨x2, n1, rfl, _, hS', hn', hm'⟩; have HS1 := Lib.hid (HS.out.step 1 hS' hn' hm'); have hle := HS1.out.mill.le; clear HS; have HS := HS1; clear HS1 hS' hn' hm')
    | (go_at_call 31; refine (c_pickB p la xs lc _ _ _ HS.out.mill.src (by omega) HS.out.box).mono ?_; rintro e w1 ⟨x3, n1, rfl, _, hS', hn', hm'⟩; have HS1 := Lib.hid (HS.out.step 1 hS' hn' hm'); have hle := HS1.out.mill.le; clear HS; have HS := HS1; clear HS1 hS' hn' hm')
    | (go_at_call 41; refine (c_wordA p la xs lc _ _ _ _ HS.out.mill.src (by omega) (by kernel_rfl) (by kernel_rfl) (by decide) (by decide)).mono ?_; rintro e w1 ⟨y, n1, rfl, _, hS', hn', hm'⟩; have HS1 := Lib.hid (HS.out.step 1 hS' hn' hm'); have hle := HS1.out.mill.le; clear HS; have HS := HS1; clear HS1 hS' hn' hm')
    | (refine wpList_store_row (by rfl) tProc _ _ (by rfl) W.heap.size #[_, _, _, _, _, _, _, _, _, _, _, _, _, _] (by rfl) (by rfl) tProc _ HS.out.box2 (by kernel_rfl) (by rfl) (by kernel_rfl) ?_))
  refine bodyPost_ret (v := .agg _) (results_cell_row (p := 2) (ty := tProc) (by kernel_rfl) _ _ W.heap.size _ _ _ _ (by rfl) (setRow_heap _ W.heap.size _ _ tProc (0, 0) HS.out.box2) Tryz.underlying31 rfl (by kernel_rfl)) rfl ?_
  exact ⟨⟨_, _, _, _, _, _, _, _, _, _, _, _, _⟩, _, rfl, (HS.out.swap.row (by decide) (fun x hx => by rw [List.mem_singleton.1 hx]; exact Nat.succ_ne_self _)).mill.up (by omega)⟩
end Go.Proofs.YtnbfenapnfbmeaaGreat
/- Contracts: the source of items (kauditmake). -/
set_option linter.unusedSimpArgs false
set_option linter.unusedVariables false
namespace Go.Proofs.YtnbfenapnfbmeaaGreat
open Go.RowKit
def itemZ0 : Item := ⟨⟨#[]⟩, ⟨#[]⟩, 0, 0, ⟨#[]⟩, 0, 0, 0, 0, 0, 0, 0, 0⟩
theorem St.icells {W V : World} {p : Nat} {la : Option Addr} {xs : List Int} {lc n k m : Nat} {b : Nat} {it : Item} {bs : List (Nat × Obj)} (h : St W p la xs lc n k V m ((b, itemBox it) :: bs)) :
    V.cell? ⟨b, 0, none⟩ = some (.string it.given) ∧ V.cell? ⟨b, 1, none⟩ = some (.string it.path) ∧ V.cell? ⟨b, 2, none⟩ = some (.int .i64 it.dd) ∧ V.cell? ⟨b, 3, none⟩ = some (.int .i64 it.di) ∧ V.cell? ⟨b, 4, none⟩ = some (.string it.name) ∧ V.cell? ⟨b, 5, none⟩ = some (.int .i64 it.fd) ∧ V.cell? ⟨b, 6, none⟩ = some (.int .i64 it.fi) ∧ V.cell? ⟨b, 7, none⟩ = some (.int .i64 it.role) ∧ V.cell? ⟨b, 8, none⟩ = some (.int .i64 it.kind) ∧ V.cell? ⟨b, 9, none⟩ = some (.int .i64 it.mode) ∧ V.cell? ⟨b, 10, none⟩ = some (.int .i64 it.uid) ∧ V.cell? ⟨b, 11, none⟩ = some (.int .i64 it.gid) ∧ V.cell? ⟨b, 12, none⟩ = some (.int .i64 it.perm) ∧
    V.frozen? ⟨b, 1, none⟩ = false ∧ V.frozen? ⟨b, 2, none⟩ = false ∧ V.frozen? ⟨b, 3, none⟩ = false ∧ V.frozen? ⟨b, 4, none⟩ = false ∧ V.frozen? ⟨b, 5, none⟩ = false ∧ V.frozen? ⟨b, 6, none⟩ = false ∧ V.frozen? ⟨b, 8, none⟩ = false ∧ V.frozen? ⟨b, 9, none⟩ = false ∧ V.frozen? ⟨b, 10, none⟩ = false ∧ V.frozen? ⟨b, 11, none⟩ = false := by
  have c := cell_of_block h.box
  have f := frozen_of_block h.box
  exact ⟨c 0, c 1, c 2, c 3, c 4, c 5, c 6, c 7, c 8, c 9, c 10, c 11, c 12, f 1, f 2, f 3, f 4, f 5, f 6, f 8, f 9, f 10, f 11⟩
def ItemPost (W : World) (p : Nat) (la : Option Addr) (xs : List Int) (lc n k : Nat) (e : Ending) (W' : World) : Prop :=
  ∃ (x : Item) (n' : Nat), e = .returned x.v ∧ Mill W p la xs lc n k W' n'
section
variable {W V : World} {p lc n k m b : Nat} {la : Option Addr} {xs : List Int} {it : Item}
theorem St.item3 (h : St W p la xs lc n k V m [(b, itemBox it), (W.heap.size, itemBox itemZ0)]) (hb : b ≠ W.heap.size) (s1 s4 : ByteArray) (i2 i3 : Int) :
    St W p la xs lc n k ((((V.setCell ⟨b, 1, none⟩ (.string s1)).setCell ⟨b, 2, none⟩ (.int .i64 i2)).setCell ⟨b, 3, none⟩ (.int .i64 i3)).setCell ⟨b, 4, none⟩ (.string s4)) m [(b, itemBox { it with path := s1, dd := i2, di := i3, name := s4 }), (W.heap.size, itemBox itemZ0)] := by
  have hd : ∀ x ∈ [(W.heap.size, itemBox itemZ0)], x.1 ≠ b := fun x hx => by rw [List.mem_singleton.1 hx]; exact Ne.symm hb
  exact (((h.cell 1 (.string s1) _ rfl (by decide) hd).cell 2 (.int .i64 i2) _ rfl (by decide) hd).cell 3 (.int .i64 i3) _ rfl (by decide) hd).cell 4 (.string s4) _ rfl (by decide) hd
theorem St.item6 (h : St W p la xs lc n k V m [(b, itemBox it), (W.heap.size, itemBox itemZ0)]) (hb : b ≠ W.heap.size) (i5 i6 i8 i9 i10 i11 : Int) :
    St W p la xs lc n k ((((((V.setCell ⟨b, 5, none⟩ (.int .i64 i5)).setCell ⟨b, 6, none⟩ (.int .i64 i6)).setCell ⟨b, 8, none⟩ (.int .i64 i8)).setCell ⟨b, 9, none⟩ (.int .i64 i9)).setCell ⟨b, 10, none⟩ (.int .i64 i10)).setCell ⟨b, 11, none⟩ (.int .i64 i11)) m [(b, itemBox { it with fd := i5, fi := i6, kind := i8, mode := i9, uid := i10, gid := i11 }), (W.heap.size, itemBox itemZ0)] := by
  have hd : ∀ x ∈ [(W.heap.size, itemBox itemZ0)], x.1 ≠ b := fun x hx => by rw [List.mem_singleton.1 hx]; exact Ne.symm hb
  exact (((((h.cell 5 (.int .i64 i5) _ rfl (by decide) hd).cell 6 (.int .i64 i6) _ rfl (by decide) hd).cell 8 (.int .i64 i8) _ rfl (by decide) hd).cell 9 (.int .i64 i9) _ rfl (by decide) hd).cell 10 (.int .i64 i10) _ rfl (by decide) hd).cell 11 (.int .i64 i11) _ rfl (by decide) hd
end
set_option maxRecDepth 100000 in
set_option maxHeartbeats 2000000 in
theorem c_item (p : Nat) (la : Option Addr) (xs : List Int) (lc n : Nat) (W : World) (hS : Src W p la xs lc n) (hn : n ≤ 999997000) :
    Calls Tryz.prog 32 #[.pointer (some ⟨p, 0, none⟩)] W (ItemPost W p la xs lc n 60) := by
  have HS := Lib.hid ((St.start hS).new (itemBox itemZ0))
  clear hS
  go_enter Tryz.func32, Tryz.ntmps32
  go_upto_region 1 with fail
  obtain ⟨W1, hW1⟩ : ∃ W1, W1 = W.alloc (itemBox itemZ0) := ⟨_, rfl⟩
  change Code.wp _ _ _ _ (W.alloc (itemBox itemZ0))
  rw [← hW1] at HS ⊢
  clear hW1
  have hle := HS.out.mill.le
  go_cut [3] (fun s3 wc => ∃ (b : Nat), s3 = .pointer (some ⟨b, 0, none⟩) ∧ Aside (b ≠ W.heap.size) ∧ ∃ (it : Item) (m : Nat), Aside (St W p la xs lc n 22 wc m [(b, itemBox it), (W.heap.size, itemBox itemZ0)]))
  case first =>
    go_wp2_with (first
      | (go_at_call 57; refine (c_path p la xs lc _ _ HS.out.mill.src (by omega)).mono ?_; rintro e w1 ⟨y, n1, rfl, _, _, ⟨hS', hn', hm'⟩⟩; have HS1 := Lib.hid (HS.out.step 20 hS' hn' hm'); (try clear k0 k1 k2 k3 k4 k5 k6 k7 k8 k9 k10 k11 k12 g1 g2 g3 g4 g5 g6 g8 g9 g10 g11); have hle := HS1.out.mill.le; clear HS; have HS := HS1; clear HS1 hS' hn' hm'; (try obtain ⟨k0, k1, k2, k3, k4, k5, k6, k7, k8, k9, k10, k11, k12, g1, g2, g3, g4, g5, g6, g8, g9, g10, g11⟩ := HS.out.icells))
      | (go_at_call 28; refine (c_range p la xs lc _ _ _ _ HS.out.mill.src (by omega) (by decide) (by decide) (by decide)).mono ?_; rintro e w1 ⟨x, n1, rfl, _, hS', hn', hm'⟩; have HS1 := Lib.hid (HS.out.step 1 hS' hn' hm'); (try clear k0 k1 k2 k3 k4 k5 k6 k7 k8 k9 k10 k11 k12 g1 g2 g3 g4 g5 g6 g8 g9 g10 g11); have hle := HS1.out.mill.le; clear HS; have HS := HS1; clear HS1 hS' hn' hm'; (try obtain ⟨k0, k1, k2, k3, k4, k5, k6, k7, k8, k9, k10, k11, k12, g1, g2, g3, g4, g5, g6, g8, g9, g10, g11⟩ := HS.out.icells))
      | (go_at_call 11; refine (c_n p la xs lc _ _ _ HS.out.mill.src (by omega) (by decide) (by decide)).mono ?_; rintro e w1 ⟨x, n1, rfl, _, hS', hn', hm'⟩; have HS1 := Lib.hid (HS.out.step 1 hS' hn' hm'); (try clear k0 k1 k2 k3 k4 k5 k6 k7 k8 k9 k10 k11 k12 g1 g2 g3 g4 g5 g6 g8 g9 g10 g11); have hle := HS1.out.mill.le; clear HS; have HS := HS1; clear HS1 hS' hn' hm'; (try obtain ⟨k0, k1, k2, k3, k4, k5, k6, k7, k8, k9, k10, k11, k12, g1, g2, g3, g4, g5, g6, g8, g9, g10, g11⟩ := HS.out.icells))
      | (refine wpList_store_row (by rfl) 69 _ _ (by rfl) _ #[_, _, _, _, _, _, _, _, _, _, _, _, _] (by rfl) (by rfl) 69 _ (heap_new _ _) (by kernel_rfl) (by rfl) (by kernel_rfl) ?_; rw [setRow_new]))
    go_meet
    exact ⟨_, rfl, (Nat.ne_of_gt (lt_of_some HS.out.box)), ⟨_, _, _, _, _, _, _, _, _, _, _, _, _⟩, _, HS.out.new _⟩
  case rest =>
    obtain ⟨b, rfl, HB, hcut⟩ := hcut
    have HB : b ≠ W.heap.size := HB
    have HBH := Lib.hid HB
    clear HB hle
    obtain ⟨it, m, HS2⟩ := hcut
    clear HS
    have HS : Hid (St W p la xs lc n 22 wc m [(b, itemBox it), (W.heap.size, itemBox itemZ0)]) := HS2
    have hle := HS.out.mill.le
    clear HS2
    obtain ⟨k0, k1, k2, k3, k4, k5, k6, k7, k8, k9, k10, k11, k12, g1, g2, g3, g4, g5, g6, g8, g9, g10, g11⟩ := HS.out.icells
    go_upto_if 13 with (go_at_call 11; refine (c_n p la xs lc _ _ _ HS.out.mill.src (by omega) (by decide) (by decide)).mono ?_; rintro e w1 ⟨x, n1, rfl, _, hS', hn', hm'⟩; have HS1 := Lib.hid (HS.out.step 1 hS' hn' hm'); (try clear k0 k1 k2 k3 k4 k5 k6 k7 k8 k9 k10 k11 k12 g1 g2 g3 g4 g5 g6 g8 g9 g10 g11); have hle := HS1.out.mill.le; clear HS; have HS := HS1; clear HS1 hS' hn' hm'; (try obtain ⟨k0, k1, k2, k3, k4, k5, k6, k7, k8, k9, k10, k11, k12, g1, g2, g3, g4, g5, g6, g8, g9, g10, g11⟩ := HS.out.icells))
    go_cut [] (fun wc => ∃ (it : Item) (m : Nat), Aside (St W p la xs lc n 40 wc m [(b, itemBox it), (W.heap.size, itemBox itemZ0)]))
    case first =>
      by_cases hx0 : (0 : Int) < x
      · go_upto_region 4 with (first
      | (go_at_call 44; refine (c_clean p la xs lc _ _ HS.out.mill.src (by omega)).mono ?_; rintro e w1 ⟨yc, n1, rfl, _, ⟨hS', hn', hm'⟩⟩; have HS1 := Lib.hid (HS.out.step 4 hS' hn' hm'); (try clear k0 k1 k2 k3 k4 k5 k6 k7 k8 k9 k10 k11 k12 g1 g2 g3 g4 g5 g6 g8 g9 g10 g11); have hle := HS1.out.mill.le; clear HS; have HS := HS1; clear HS1 hS' hn' hm'; (try obtain ⟨k0, k1, k2, k3, k4, k5, k6, k7, k8, k9, k10, k11, k12, g1, g2, g3, g4, g5, g6, g8, g9, g10, g11⟩ := HS.out.icells))
      | (go_at_call 28; refine (c_range p la xs lc _ _ _ _ HS.out.mill.src (by omega) (by decide) (by decide) (by decide)).mono ?_; rintro e w1 ⟨xr, n1, rfl, _, hS', hn', hm'⟩; have HS1 := Lib.hid (HS.out.step 1 hS' hn' hm'); (try clear k0 k1 k2 k3 k4 k5 k6 k7 k8 k9 k10 k11 k12 g1 g2 g3 g4 g5 g6 g8 g9 g10 g11); have hle := HS1.out.mill.le; clear HS; have HS := HS1; clear HS1 hS' hn' hm'; (try obtain ⟨k0, k1, k2, k3, k4, k5, k6, k7, k8, k9, k10, k11, k12, g1, g2, g3, g4, g5, g6, g8, g9, g10, g11⟩ := HS.out.icells))
      | (go_at_call 58; refine (c_name p la xs lc _ _ HS.out.mill.src (by omega)).mono ?_; rintro e w1 ⟨yn, n1, rfl, _, _, ⟨hS', hn', hm'⟩⟩; have HS1 := Lib.hid (HS.out.step 2 hS' hn' hm'); (try clear k0 k1 k2 k3 k4 k5 k6 k7 k8 k9 k10 k11 k12 g1 g2 g3 g4 g5 g6 g8 g9 g10 g11); have hle := HS1.out.mill.le; clear HS; have HS := HS1; clear HS1 hS' hn' hm'; (try obtain ⟨k0, k1, k2, k3, k4, k5, k6, k7, k8, k9, k10, k11, k12, g1, g2, g3, g4, g5, g6, g8, g9, g10, g11⟩ := HS.out.icells)))
        have HS1 := Lib.hid ((HS.out.item3 HBH.out yc yn 0 xr))
        generalize hW2 : World.setCell _ _ _ = W2 at HS1 ⊢
        have HS2 := Lib.hid (show ∃ it, St W p la xs lc n 30 W2 n1 [(b, itemBox it), (W.heap.size, itemBox itemZ0)] from ⟨_, HS1.out⟩)
        clear HS HS1 hW2 hx0 k0 k1 k2 k3 k4 k5 k6 k7 k8 k9 k10 k11 k12 g1 g2 g3 g4 g5 g6 g8 g9 g10 g11
        obtain ⟨it, HS3⟩ := HS2.out
        have HS := Lib.hid HS3
        clear HS2 HS3
        obtain ⟨k0, k1, k2, k3, k4, k5, k6, k7, k8, k9, k10, k11, k12, g1, g2, g3, g4, g5, g6, g8, g9, g10, g11⟩ := HS.out.icells
        go_wp2_with (first
      | (go_at_call 11; refine (c_n p la xs lc _ _ _ HS.out.mill.src (by omega) (by decide) (by decide)).mono ?_; rintro e w1 ⟨x, n1, rfl, _, hS', hn', hm'⟩; have HS1 := Lib.hid (HS.out.step 1 hS' hn' hm'); (try clear k0 k1 k2 k3 k4 k5 k6 k7 k8 k9 k10 k11 k12 g1 g2 g3 g4 g5 g6 g8 g9 g10 g11); have hle := HS1.out.mill.le; clear HS; have HS := HS1; clear HS1 hS' hn' hm'; (try obtain ⟨k0, k1, k2, k3, k4, k5, k6, k7, k8, k9, k10, k11, k12, g1, g2, g3, g4, g5, g6, g8, g9, g10, g11⟩ := HS.out.icells))
      | (go_at_call 31; refine (c_pickA p la xs lc _ _ _ _ HS.out.mill.src (by omega) (by kernel_rfl) (by kernel_rfl) (by decide) (by decide)).mono ?_; rintro e w1 ⟨x, n1, rfl, _, hS', hn', hm'⟩; have HS1 := Lib.hid (HS.out.step 1 hS' hn' hm'); (try clear k0 k1 k2 k3 k4 k5 k6 k7 k8 k9 k10 k11 k12 g1 g2 g3 g4 g5 g6 g8 g9 g10 g11); have hle := HS1.out.mill.le; clear HS; have HS := HS1; clear HS1 hS' hn' hm'; (try obtain ⟨k0, k1, k2, k3, k4, k5, k6, k7, k8, k9, k10, k11, k12, g1, g2, g3, g4, g5, g6, g8, g9, g10, g11⟩ := HS.out.icells)))
        go_meet
        exact ⟨{ it with fd := _, fi := _, kind := _, mode := _, uid := _, gid := _ }, _, (HS.out.item6 HBH.out _ _ _ _ _ _).up 40 (by omega)⟩
      · go_wp2
        go_meet
        exact ⟨it, _, HS.out.up 40 (by omega)⟩
    case rest =>
      clear k0 k1 k2 k3 k4 k5 k6 k7 k8 k9 k10 k11 k12 g1 g2 g3 g4 g5 g6 g8 g9 g10 g11
      obtain ⟨it, m, HS2⟩ := hcut
      clear HS
      have HS : Hid (St W p la xs lc n 40 wc m [(b, itemBox it), (W.heap.size, itemBox itemZ0)]) := HS2
      have hle := HS.out.mill.le
      clear HS2
      obtain ⟨k0, k1, k2, k3, k4, k5, k6, k7, k8, k9, k10, k11, k12, g1, g2, g3, g4, g5, g6, g8, g9, g10, g11⟩ := HS.out.icells
      go_wp2_with (refine wpList_store_row (by rfl) 69 _ _ (by rfl) W.heap.size #[_, _, _, _, _, _, _, _, _, _, _, _, _] (by rfl) (by rfl) 69 _ HS.out.box2 (by kernel_rfl) (by rfl) (by kernel_rfl) ?_)
      refine bodyPost_ret (v := .agg _) (results_cell_row (p := 2) (ty := 69) (by kernel_rfl) _ _ W.heap.size _ _ _ _ (by rfl) (setRow_heap _ W.heap.size _ _ 69 (0, 0) HS.out.box2) Tryz.underlying69 rfl (by kernel_rfl)) rfl ?_
      exact ⟨it, _, rfl, (HS.out.swap.row (by decide) (fun x hx => by rw [List.mem_singleton.1 hx]; exact HBH.out)).mill.up (by omega)⟩
end Go.Proofs.YtnbfenapnfbmeaaGreat
