/-
  The library's functions that this program calls, in the form of our own walks: each out of the kit's contract.
-/
import Derived.Test.YtnkaebjaeaecmaaGreatDoorShelf
import Derived.Test.YtnkaebjaeaecmaaGreatDoorLib1
namespace Go.Proofs.YtnkaebjaeaecmaaGreatDoor
set_option linter.unusedVariables false
open Go Go.RowKit

/-- What the library's functions read of its own variables. -/
structure Gl (w : World) : Prop where
  bal : Bal 0 w
  esy : ∃ te pe, w.cell? ⟨3, 0, none⟩ = some (.iface te pe)
  era : ∃ te pe, w.cell? ⟨4, 0, none⟩ = some (.iface te pe)
  pow : Lib.TabIs Tryz.prog w "internal/strconv.uint64pow10" .u64 Lib.pow10Tab
theorem cell_below {w W : World} {a : Addr} {v : Value} (h : Go.RowKit.Below w.heap.size w W) (k : w.cell? a = some v) : W.cell? a = some v := by
  rw [World.cell?_of_block (h.block a.block (World.block_lt_of_cell? _ _ k))]; exact k
theorem tab_below {w W : World} {n : String} {k : IntKind} {zs : List Int} (h : Go.RowKit.Below w.heap.size w W) (q : Lib.TabIs Tryz.prog w n k zs) : Lib.TabIs Tryz.prog W n k zs := by
  unfold Lib.TabIs World.var? at *
  cases hg : Tryz.prog.globalNamed n with
  | none => rw [hg] at q; cases q
  | some g =>
    rw [hg] at q
    simp only [Option.bind_some] at q ⊢
    have hlt : g < w.heap.size := by
      rcases Nat.lt_or_ge g w.heap.size with h1 | h1
      · exact h1
      · rw [Array.getElem?_eq_none h1] at q; cases q
    rw [h.block g hlt]
    exact q
theorem Gl.below {w W : World} (h : Go.RowKit.Below w.heap.size w W) (k : Gl w) : Gl W := by
  obtain ⟨h1, ⟨a, b, h2⟩, ⟨c, d, h3⟩, h4⟩ := k
  exact ⟨h1.below h, ⟨a, b, cell_below h h2⟩, ⟨c, d, cell_below h h3⟩, tab_below h h4⟩
theorem Ext.bytesWorld (w : World) (e : TypeId) (s : ByteArray) : Ext w (Lib.bytesWorld w e s) := by
  have h1 : Ext w (w.drew.alloc (.cells (Lib.bytesCells w e s) e)) := (Ext.drawn w _).trans (Ext.alloc _ _)
  unfold Lib.bytesWorld World.freeze
  split
  · exact h1
  · have a1 : _ = w.os := Below.os h1
    have a2 : _ = w.tape := Below.tape h1
    have a3 : _ = w.output := Below.output h1
    refine ⟨a1, a2, a3, ?_, fun k hk => ?_⟩
    · have := Ext.size h1
      simp only [Array.size_modify]
      exact this
    · rw [← Below.block h1 k hk]
      show (Array.modify _ w.heap.size _)[k]? = _
      rw [Array.getElem?_modify, if_neg (by omega)]
theorem Ext.growO (w : World) (os : Array Obj) : Ext w (Go.Sort.grow w os) := by
  refine ⟨rfl, rfl, rfl, ?_, fun k hk => ?_⟩
  · unfold Go.Sort.grow; simp
  · unfold Go.Sort.grow
    show (w.heap ++ os)[k]? = _
    rw [Array.getElem?_append_left hk]

theorem C_strings_CutPrefix (s p : List UInt8) (w : World) : Fn Tryz.prog 55 #[keyW s, keyW p] w fun v w' => v = .tuple #[keyW (Lib.trimPrefix s p), .bool (Lib.hasPrefix s p)] :=
  Fn_of_calls (Tryz.strings_CutPrefix ⟨s.toArray⟩ ⟨p.toArray⟩ w)
theorem C_strings_Cut (s p : List UInt8) (w : World) (hg : Gl w) (hs : s.length < 4294967281) : Fn Tryz.prog 71 #[keyW s, keyW p] w fun v w' => v = .tuple #[keyW (Lib.cut s p).1, keyW (Lib.cut s p).2.1, .bool (Lib.cut s p).2.2] := by
  obtain ⟨m, hm⟩ := hg.bal
  exact ⟨Calls.mono (Tryz.strings_Cut ⟨s.toArray⟩ ⟨p.toArray⟩ m w hs hm) fun e w' ⟨h1, n, h2⟩ => ⟨_, h1, by rw [h2]; exact Ext.drewN w n, rfl⟩⟩
theorem C_strings_Split (s : List UInt8) (w : World) (hg : Gl w) (hs : s.length < 4294967281) : Fn Tryz.prog 35 #[keyW s, keyW [10]] w fun v w' => OwT encW 1 9 w' w.heap.size v (linesL s) := by
  obtain ⟨m, hm⟩ := hg.bal
  refine ⟨Calls.mono (Tryz.strings_Split ⟨s.toArray⟩ ⟨#[10]⟩ m w hs hm (by decide)) fun e w' ⟨h1, h2⟩ => ⟨_, h1, by rw [h2]; exact Ext.alloc w _, ?_⟩⟩
  have hc : Lib.countB ⟨s.toArray⟩ ⟨#[10]⟩ = s.count 10 := Lib.count_one 10 s
  have hd := Lib.splitB_data ⟨#[10]⟩ 0 (s.count 10) ⟨s.toArray⟩
  rw [show (⟨s.toArray⟩ : ByteArray).data.toList = s from rfl, show (⟨#[10]⟩ : ByteArray).data.toList = [10] from rfl, splitK_lines] at hd
  have hl := Lib.splitB_all ⟨#[10]⟩ (by decide) 0 (s.count 10) ⟨s.toArray⟩ hc
  have hl2 : (linesL s).length = s.count 10 + 1 := by rw [← hd, List.length_map, hl]
  have hcs : ((Lib.splitB ⟨#[10]⟩ 0 (s.count 10) ⟨s.toArray⟩).map Value.string) = (linesL s).flatMap encW := by
    rw [← hd, List.flatMap_map]
    induction Lib.splitB ⟨#[10]⟩ 0 (s.count 10) ⟨s.toArray⟩ with
    | nil => rfl
    | cons a l ih => rw [List.map_cons, List.flatMap_cons, ih]; exact congrArg (· :: _) (bytes_back a)
  rw [hc] at h2 ⊢
  rw [h2, hcs, ← hl2]
  have hle : (linesL s).length ≤ maxLen := by
    rw [hl2]
    have := List.count_le_length (a := (10 : UInt8)) (l := s)
    unfold maxLen
    omega
  exact own_row (heap_alloc_new w _) (Nat.le_refl _) encW_len hle
/-- strconv.Atoi: the number; or an error that is not nil. -/
theorem C_strconv_Atoi (s : List UInt8) (w : World) (hg : Gl w) (hs : s.length ≤ 281474976710656) : Fn Tryz.prog 68 #[keyW s] w fun v w' => (∃ n : Int, Lib.atoiAll s = .ok n ∧ v = .tuple #[.int .i64 n, .nilIface]) ∨ ((∀ n, Lib.atoiAll s ≠ .ok n) ∧ ∃ (n : Int) (p : Value), v = .tuple #[.int .i64 n, .iface 121 p]) := by
  obtain ⟨_, ⟨t1, p1, h1⟩, ⟨t2, p2, h2⟩, _⟩ := hg
  cases h : Lib.atoiAll s
  case ok n => exact ⟨Calls.mono (Tryz.strconv_Atoi_ok ⟨s.toArray⟩ (show s.length ≤ _ by omega) n h w) fun e w' ⟨e1, e2⟩ => ⟨_, e1, by rcases e2 with rfl | ⟨t, rfl⟩ <;> first | exact Ext.refl _ | exact Ext.bytesWorld _ _ _, .inl ⟨n, rfl, rfl⟩⟩⟩
  case range => exact ⟨Calls.mono (Tryz.strconv_Atoi_range ⟨s.toArray⟩ hs h _ w h2 (.inr ⟨_, _, rfl⟩)) fun e w' ⟨b, e1, _, _, e2⟩ => ⟨_, e1, e2, .inr ⟨fun n e => (by cases e), _, _, rfl⟩⟩⟩
  all_goals exact ⟨Calls.mono (Tryz.strconv_Atoi_syntax ⟨s.toArray⟩ hs h _ w h1 (.inr ⟨_, _, rfl⟩)) fun e w' ⟨b, e1, _, _, e2⟩ => ⟨_, e1, e2, .inr ⟨fun n e => (by cases e), _, _, rfl⟩⟩⟩
theorem C_strconv_Itoa (n : Int) (w : World) (hg : Gl w) (h0 : -9223372036854775808 ≤ n) (h1 : n ≤ 9223372036854775807) : Fn Tryz.prog 69 #[.int .i64 n] w fun v w' => v = keyW (Lib.itoa n) :=
  ⟨Calls.mono (Tryz.strconv_Itoa n h0 h1 w hg.pow) fun e w' ⟨e1, k, os, e2⟩ => ⟨_, e1, by rw [e2]; exact (Ext.drewN w k).trans (Ext.growO _ _), rfl⟩⟩

end Go.Proofs.YtnkaebjaeaecmaaGreatDoor
