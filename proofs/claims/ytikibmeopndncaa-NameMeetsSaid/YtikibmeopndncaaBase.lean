/- Words and small facts that the walks share. Nothing of any one function. -/
import Derived.Test.YtikibmeopndncaaShelf
import Derived.Test.YtikibmeopndncaaRf
import Derived.WalkKit
import Derived.WalkSpells
import Derived.WalkLawsBesides
import Derived.OwnWalkIn
import Derived.TacticsInMore
import Derived.LoopNIn
import Derived.LoopIn
import Derived.Lib.Hide
import Derived.Lib.FrozenHead2
import Derived.Lib.OthersKept
import Derived.Maps.AppendAt
namespace Go.Proofs.Ytikibmeopndncaa
open Go.RowKit Go.Shelf
set_option maxRecDepth 100000

/-- a text as a value -/
abbrev S (l : List UInt8) : Value := .string ⟨l.toArray⟩
abbrev I64 (n : Int) : Value := .int .i64 n

theorem ret_int {k : IntKind} {a b : Int} (h : a = b) : Ending.returned (.int k a) = .returned (.int k b) := by rw [h]
theorem ret_bool {a b : Bool} (h : a = b) : Ending.returned (.bool a) = .returned (.bool b) := by rw [h]
theorem ret_S {a b : List UInt8} (h : a = b) : Ending.returned (S a) = .returned (S b) := by rw [h]

theorem bcell {W w1 : World} (hb : Below W.heap.size W w1) : (∀ b o, b < W.heap.size → w1.cell? ⟨b, o, none⟩ = W.cell? ⟨b, o, none⟩) ∧ (∀ b o, b < W.heap.size → w1.frozen? ⟨b, o, none⟩ = W.frozen? ⟨b, o, none⟩) :=
  ⟨fun b o h => hb.cell (p := ⟨b, o, none⟩) h, fun b o h => hb.frozen (p := ⟨b, o, none⟩) h⟩

@[go_sem] theorem getElem_S (l : List UInt8) (k : Nat) (h : k < (ByteArray.mk l.toArray).size) : (ByteArray.mk l.toArray)[k] = l[k]'h := rfl

theorem append_S (a b : List UInt8) : (ByteArray.mk a.toArray) ++ (ByteArray.mk b.toArray) = ⟨(a ++ b).toArray⟩ := by
  apply ByteArray.ext; simp [ByteArray.data_append]
theorem take_one (l : List UInt8) (k : Nat) (h : k < l.length) : (l.drop k).take 1 = [l[k]] := by
  rw [List.drop_eq_getElem_cons h]; rfl
@[go_sem] theorem take_sub_drop (l : List UInt8) (a : Nat) : (l.drop a).take (l.length - a) = l.drop a := List.take_of_length_le (by simp)
@[go_sem] theorem extract_S (l : List UInt8) (a b : Nat) : (ByteArray.mk l.toArray).extract a b = ⟨((l.drop a).take (b - a)).toArray⟩ := by
  rw [ByteArray.extract_mk]
theorem below_keepsOthers {W W' : World} (h : Below W.heap.size W W') : KeepsOthers W W' :=
  ⟨h.size, fun k o hk _ => (h.block k (Array.getElem?_eq_some_iff.1 hk).1).trans hk⟩

@[go_sem, simp] theorem wide_depth : Fence.wide.depth = none := rfl
@[go_sem, simp] theorem wide_fn (f : FuncId) : Fence.wide.fn f := trivial
@[go_sem, simp] theorem wide_fn' (f : FuncId) : Fence.wide.fn f = True := rfl

/-- string(b), b a literal of bytes that the call has just laid -/
theorem conv_lit (w : World) (l : List UInt8) (cap : Nat) :
    (convert 84 9 (.slice (some ⟨w.heap.size, 0, none⟩) l.length cap)).run Try.prog (w.alloc (.cells ((l.map fun b => Value.int .u8 b.toNat).toArray) 5)) = .ok (S l) (w.alloc (.cells ((l.map fun b => Value.int .u8 b.toNat).toArray) 5)) := by
  refine run_convert_bytes_back _ _ _ 5 _ _ l Try.underlying84 Try.underlying5 Try.underlying9 (fun j hj => ?_)
  have := cell_of_row (w.alloc (.cells ((l.map fun b => Value.int .u8 b.toNat).toArray) 5)) w.heap.size j _ 5 (0, 0) (World.alloc_heap_new w _)
  have hadd : (⟨w.heap.size, 0, none⟩ : Addr).add j = ⟨w.heap.size, j, none⟩ := by unfold Addr.add; split <;> simp_all
  rw [hadd, this]; simp [hj]

/-! ### what lies in memory across steps -/
/-- a block of one cell -/
def Box (b : Nat) (t : TypeId) (v : Value) (W : World) : Prop := W.heap[b]? = some (.cells #[v] t (0, 0))
theorem Box.lt {b t v W} (h : Box b t v W) : b < W.heap.size := (Array.getElem?_eq_some_iff.1 h).1
theorem Box.cell {b t v W} (h : Box b t v W) : W.cell? ⟨b, 0, none⟩ = some v := by unfold Box at h; simp [World.cell?, h]
theorem Box.frozen {b t v W} (h : Box b t v W) : W.frozen? ⟨b, 0, none⟩ = false := by unfold Box at h; simp [World.frozen?, h]
theorem Box.below {b t v} {W W' : World} (h : Box b t v W) (hb : Below W.heap.size W W') : Box b t v W' := (hb.block b h.lt).trans h
theorem Box.new (W : World) (t : TypeId) (v : Value) : Box W.heap.size t v (W.alloc (.cells #[v] t)) := World.alloc_heap_new W _
theorem Box.alloc {b t v W} (h : Box b t v W) (o : Obj) : Box b t v (W.alloc o) := (Below.heap_alloc W o b h.lt).trans h
theorem Box.put {b t v W l r} (h : Box b t v W) (hr : W.heap[l]? = some (.loop r)) (o : Obj) : Box b t v (W.putObj l o) := by
  have hne : b ≠ l := fun e => by unfold Box at h; rw [e, hr] at h; cases h
  exact (World.putObj_heap_other (by omega)).trans h
theorem Box.putD {b t v W l d} (h : Box b t v W) (hr : W.heap[l]? = some (.deferred d)) (o : Obj) : Box b t v (W.putObj l o) := by
  have hne : b ≠ l := fun e => by unfold Box at h; rw [e, hr] at h; cases h
  exact (World.putObj_heap_other (by omega)).trans h
theorem below_putD {n : Nat} {w W : World} (h : Below n w W) {l : Nat} (hl : n ≤ l) (hn : n ≤ W.heap.size) (o : Obj) : Below n w (W.putObj l o) :=
  h.grown (grownBy_putObj' W l o) hn (fun k e => by have := Option.some.inj e; omega)
theorem Box.others {b t v W W' e c} (h : Box b t v W) (ho : Lib.OthersKept e (some c) W W') (hb : b ≠ c) (ht : t ≠ e) : Box b t v W' :=
  ho b _ h (fun x => hb (by cases x; rfl)) (fun _ _ x => ht (by cases x; rfl))
theorem Box.set {b t v W} (h : Box b t v W) (u : Value) : Box b t u (W.setCell ⟨b, 0, none⟩ u) := by
  unfold Box at h ⊢; simp [World.setCell, Array.getElem?_modify, h]
theorem Box.setOther {b t v W} (h : Box b t v W) {c o : Nat} (hne : b ≠ c) (u : Value) : Box b t v (W.setCell ⟨c, o, none⟩ u) := (Below.heap_setCell _ _ _ _ hne).trans h
theorem below_put {n : Nat} {w W : World} (h : Below n w W) {l : Nat} (hl : n ≤ l) {r} (hr : W.heap[l]? = some (.loop r)) (hn : n ≤ W.heap.size) (o : Obj) : Below n w (W.putObj l o) :=
  h.grown (grownBy_putObj' W l o) hn (fun k e => by cases e; exact hl)
theorem keepsOthers_others {e c} {W W' : World} (hs : W.heap.size ≤ W'.heap.size) (ho : Lib.OthersKept e (some c) W W') (hc : ∃ x t f, W.heap[c]? = some (.cells x t f)) : KeepsOthers W W' := by
  obtain ⟨x, t, f, hc⟩ := hc
  refine ⟨hs, fun k o hk hn => ho k o hk (fun e => ?_) (fun _ _ e => ?_)⟩
  · cases e; rw [hc] at hk; cases hk; simp [Obj.isCells] at hn
  · subst e; simp [Obj.isCells] at hn
theorem others_below {e c} {W W' : World} (hb : Below W.heap.size W W') : Lib.OthersKept e c W W' := fun k _ hk _ _ => (hb.block k (Array.getElem?_eq_some_iff.1 hk).1).trans hk
/-- a cell of a block is as it was -/
def sameCell (b : Nat) (A B : World) : Prop := B.cell? ⟨b, 0, none⟩ = A.cell? ⟨b, 0, none⟩
theorem sameCell.trans {b : Nat} (A B C : World) (h : sameCell b A B) (k : sameCell b B C) : sameCell b A C := Eq.trans k h
theorem sameCell.put {b l : Nat} (h : b ≠ l) (A : World) (o : Obj) : sameCell b A (A.putObj l o) := by
  unfold sameCell World.cell?; rw [World.putObj_heap_other (by simpa using h)]
theorem Box.same {b t v W W'} (h : Box b t v W) (h' : Box b t v W') : sameCell b W W' := h'.cell.trans h.cell.symm

/-! ### a row of octets that the call itself has made of a text -/
def ByteRow (g : Nat) (l : List UInt8) (W : World) : Prop := ∃ cur lo hi, W.heap[g]? = some (.cells cur 5 (lo, hi)) ∧ l.length ≤ lo ∧ ∀ j (h : j < l.length), cur[j]? = some (.int .u8 (l[j].toNat : Int))
theorem ByteRow.lt {g l W} (h : ByteRow g l W) : g < W.heap.size := by obtain ⟨_, _, _, h, _⟩ := h; exact (Array.getElem?_eq_some_iff.1 h).1
theorem ByteRow.cell {g l W} (h : ByteRow g l W) (j : Nat) (hj : j < l.length) : W.cell? ⟨g, j, none⟩ = some (.int .u8 (l[j].toNat : Int)) := by
  obtain ⟨cur, lo, hi, hg, _, hc⟩ := h; rw [cell_of_row W g j _ _ _ hg]; exact hc j hj
theorem ByteRow.frozen {g l W} (h : ByteRow g l W) (j : Nat) (hj : j < l.length) : W.frozen? ⟨g, j, none⟩ = false := by
  obtain ⟨cur, lo, hi, hg, hl, _⟩ := h
  simp [World.frozen?, hg]; omega
theorem ByteRow.set {g l W} (h : ByteRow g l W) (j : Nat) (c : UInt8) : ByteRow g (l.set j c) (W.setCell ⟨g, j, none⟩ (.int .u8 (c.toNat : Int))) := by
  obtain ⟨cur, lo, hi, hg, hl, hc⟩ := h
  refine ⟨cur.setIfInBounds j (.int .u8 (c.toNat : Int)), lo, hi, ?_, by simpa using hl, fun i hi' => ?_⟩
  · simp [World.setCell, Array.getElem?_modify, hg]
  · simp only [List.length_set] at hi'
    have := hc i hi'
    have hs := (Array.getElem?_eq_some_iff.1 this).1
    rw [Array.getElem?_setIfInBounds, List.getElem_set]
    by_cases e : j = i
    · subst e; simp [hs]
    · simp [e, this]
theorem ByteRow.kept {g l} {W W' : World} (h : ByteRow g l W) (hg : W'.heap[g]? = W.heap[g]?) : ByteRow g l W' := by
  obtain ⟨cur, lo, hi, h1, r⟩ := h; exact ⟨cur, lo, hi, hg.trans h1, r⟩
theorem ByteRow.put {g l W n r} (h : ByteRow g l W) (hr : W.heap[n]? = some (.loop r)) (o : Obj) : ByteRow g l (W.putObj n o) := by
  refine h.kept (World.putObj_heap_other (fun e => ?_))
  obtain ⟨_, _, _, h1, _⟩ := h
  rw [e, hr] at h1; cases h1
theorem ByteRow.alloc {g l W} (h : ByteRow g l W) (o : Obj) : ByteRow g l (W.alloc o) := h.kept (Below.heap_alloc W o g h.lt)
theorem ByteRow.setOther {g l W} (h : ByteRow g l W) {c o : Nat} (hne : g ≠ c) (u : Value) : ByteRow g l (W.setCell ⟨c, o, none⟩ u) := h.kept (Below.heap_setCell _ _ _ _ hne)
theorem bytes_of (l : List UInt8) (w : World) : ∃ (cap : Nat) (W1 : World), (convert 9 84 (S l)).run Try.prog w = .ok (.slice (some ⟨w.heap.size, 0, none⟩) l.length cap) W1 ∧
    ByteRow w.heap.size l W1 ∧ Below w.heap.size w W1 ∧ W1.heap.size = w.heap.size + 1 := by
  refine ⟨_, _, run_bytes_of_string w _ _ 5 ⟨l.toArray⟩ Try.underlying9 Try.underlying84 Try.underlying5, ⟨_, _, _, World.alloc_heap_new w.drew _, ?_, fun j hj => ?_⟩, ((Below.refl _ w).drew.alloc (Nat.le_refl _) _), by simp⟩
  · simp [bytesRow]
  · simp only [bytesRow]; rw [Array.getElem?_append_left (by simpa using hj)]; simp [hj]
theorem conv_row (g : Nat) (l : List UInt8) (cap : Nat) (W : World) (h : ByteRow g l W) : (convert 84 9 (.slice (some ⟨g, 0, none⟩) l.length cap)).run Try.prog W = .ok (S l) W := by
  refine run_convert_bytes_back _ _ _ 5 _ _ l Try.underlying84 Try.underlying5 Try.underlying9 (fun j hj => ?_)
  have hadd : (⟨g, 0, none⟩ : Addr).add j = ⟨g, j, none⟩ := by unfold Addr.add; split <;> simp_all
  rw [hadd, h.cell j hj]

/-! ### strings.Builder -/
abbrev Bld (B b : Nat) (l : List UInt8) (w : World) : Prop := Lib.IsBuilderF 86 5 B b (Lib.byteCells l) w

theorem Try.info_u8 : (Try.prog.info? 5).map (fun i => (i.zero, i.size, i.bytes)) = some (some (.int .u8 0), 1, 1) := by kernel_rfl

theorem Try.info_Bld : (Try.prog.info? 86).map (·.size) = some 2 := by kernel_rfl
theorem Try.lies_Bld : liesAt Try.prog Try.prog.depth 86 (2 / Try.prog.cellsOf 86) 0 86 1 = true := by kernel_rfl

set_option maxHeartbeats 400000 in
theorem copyCheck_fresh (b : Nat) (w : World) (h0 : w.cell? ⟨b, 0, none⟩ = some (.pointer none)) (hs : w.shape? b = some (86, 2)) (hf : w.frozen? ⟨b, 0, none⟩ = false) :
    Calls Try.prog 83 #[.pointer (some ⟨b, 0, none⟩)] w fun e w' => e = .returned (.tuple #[]) ∧ w.setCell ⟨b, 0, none⟩ (.pointer (some ⟨b, 0, none⟩)) = w' := by
  obtain ⟨j, hj, hjs⟩ := Option.map_eq_some_iff.1 Try.info_Bld
  go_enter Try.func83, Try.ntmps83
  go_wp2
  rw [Lib.run_to_unsafe w ⟨b, 0, none⟩ Try.underlying83 Try.underlying131 hj (by rw [hjs]; decide) hs (Nat.zero_lt_succ 1)]
  simp only [Result.andThen]
  rw [Oper.upon_value]
  go_wp2
  rw [run_callFunc_extern Try.func99 (by kernel_rfl) (by kernel_rfl) (by kernel_rfl) (e := Extern.AbiNoEscape.same) (by kernel_rfl)]
  rw [Lib.run_noEscape]
  simp only [Result.andThen]
  rw [Oper.upon_value]
  go_wp2
  rw [Lib.run_from_unsafe w ⟨b, 0, none⟩ Try.underlying131 Try.underlying83 hj hs Try.lies_Bld]
  simp only [Result.andThen]
  rw [Oper.upon_value]
  go_wp2
  go_end0
  exact ⟨rfl, rfl⟩

set_option maxHeartbeats 400000 in
theorem copyCheck_used (b : Nat) (w : World) (h0 : w.cell? ⟨b, 0, none⟩ = some (.pointer (some ⟨b, 0, none⟩))) :
    Calls Try.prog 83 #[.pointer (some ⟨b, 0, none⟩)] w fun e w' => e = .returned (.tuple #[]) ∧ w = w' := by
  obtain ⟨j, hj, hjs⟩ := Option.map_eq_some_iff.1 Try.info_Bld
  go_enter Try.func83, Try.ntmps83
  go_wp2
  rw [Lib.run_neq_ptr_same w _ Try.underlying83 hj]
  go_wp2
  go_end0
  exact ⟨rfl, rfl⟩

theorem copyCheck_any (B b : Nat) (bs : List Value) (w : World) (h : Lib.IsBuilderF 86 5 B b bs w) :
    Calls Try.prog 83 #[.pointer (some ⟨b, 0, none⟩)] w fun e w' => e = .returned (.tuple #[]) ∧ (Lib.BuilderAtF 86 5 B b (.pointer (some ⟨b, 0, none⟩)) bs w' ∧ Below B w w' ∧ Lib.OthersKept 5 (some b) w w') := by
  rcases h with h | h
  · refine (copyCheck_fresh b w h.cell0 h.shape h.frozen0).mono ?_
    rintro e w' ⟨rfl, rfl⟩
    exact ⟨rfl, h.used _, (Below.refl B w).setCell (p := ⟨b, 0, none⟩) h.1 _, (Lib.OthersKept.refl _ _ w).setCell ⟨b, 0, none⟩ rfl _⟩
  · refine (copyCheck_used b w h.cell0).mono ?_
    rintro e w' ⟨rfl, rfl⟩
    exact ⟨rfl, h, Below.refl B _, Lib.OthersKept.refl _ _ _⟩

set_option maxHeartbeats 1000000 in
set_option maxRecDepth 100000 in
theorem writeByte_any (B b : Nat) (bs : List Value) (c : Int) (w : World) (h : Lib.IsBuilderF 86 5 B b bs w) (hlen : bs.length + 1 ≤ 140737488355328) (hBw : B ≤ w.heap.size) :
    Calls Try.prog 87 #[.pointer (some ⟨b, 0, none⟩), .int .u8 c] w fun e w' => e = .returned .nilIface ∧ (Lib.BuilderAtF 86 5 B b (.pointer (some ⟨b, 0, none⟩)) (bs ++ [.int .u8 c]) w' ∧ Below B w w' ∧ Lib.OthersKept 5 (some b) w w') := by
  obtain ⟨i0, hi, hz0, hz1, hz2⟩ := info_parts Try.info_u8
  go_enter Try.func87, Try.ntmps87
  go_wp2_with (go_at_call 83; refine (copyCheck_any B b bs _ h).mono ?_)
  rintro e w1 ⟨rfl, h1, hb1, hk1⟩
  obtain ⟨hB, v, hbk, hown, hne⟩ := h1
  have c0 : w1.cell? ⟨b, 0, none⟩ = some (.pointer (some ⟨b, 0, none⟩)) := by rw [Lib.cell_of_heap hbk]; rfl
  have c1 : w1.cell? ⟨b, 1, none⟩ = some v := by rw [Lib.cell_of_heap hbk]; rfl
  go_wp2_with (at_builtin; refine wpList_append_ownF _ rfl _ _ 84 rfl B 5 i0 (.int .u8 0) 1 1 Try.underlying84 hi hz0 hz1 hz2 rfl (by decide) _ _ _ rfl (hown.alloc _) ⟨w1.heap.size, 0, none⟩ 1 1 [.int .u8 c] rfl rfl ?c1 ?c2 ?c3 ?c4 ?c5 ?_)
  case c1 =>
    intro j u hj
    match j, hj with
    | 0, hj => simp at hj; subst hj; simp [Addr.add]
  case c2 => intro u hu; simp at hu; subst hu; rfl
  case c3 => unfold maxLen; omega
  case c4 => omega
  case c5 => have := hb1.size; simp; omega
  intro v' w2 hown' hgrow _
  have hlt : b < w1.heap.size := by
    rcases Nat.lt_or_ge b w1.heap.size with h' | h'
    · exact h'
    · simp [Array.getElem?_eq_none h'] at hbk
  have hb2 : w2.heap[b]? = some (.cells #[.pointer (some ⟨b, 0, none⟩), v] 86 (0, 0)) := by
    rw [hgrow.block b (by simp; omega) (fun e => hne e.symm), Lib.alloc_old w1 _ b hlt]
    exact hbk
  have d0 : w2.cell? ⟨b, 0, none⟩ = some (.pointer (some ⟨b, 0, none⟩)) := by rw [Lib.cell_of_heap hb2]; rfl
  have d1 : w2.cell? ⟨b, 1, none⟩ = some v := by rw [Lib.cell_of_heap hb2]; rfl
  have f1 : w2.frozen? ⟨b, 1, none⟩ = false := Lib.frozen_of_heap hb2 1
  obtain ⟨g, cap, rfl⟩ : ∃ g cap, v' = .slice (some ⟨g, 0, none⟩) (bs.length + 1) cap := by
    rcases hown'.2 with ⟨_, h0⟩ | ⟨g, cap, cur, fz, hv, _⟩
    · omega
    · exact ⟨g, cap, hv⟩
  go_wp2
  go_ret
  refine ⟨rfl, ?_, ?_, ((hk1.alloc _).grown hgrow (Lib.ownsRowF_kind (hown.alloc _))).setCell ⟨b, 1, none⟩ rfl _⟩
  · exact Lib.BuilderAtF.put (T := 86) (e := 5) hB hb2 (bs' := bs ++ [.int .u8 c]) (by simpa using hown') (by decide)
  · exact ((hb1.alloc (by have := hb1.size; omega) _).grown hgrow (by have := hb1.size; simp; omega) (fun k hk => (hown.lt k hk).1)).setCell (p := ⟨b, 1, none⟩) hB _

set_option maxHeartbeats 1000000 in
set_option maxRecDepth 100000 in
theorem writeString_any (B b : Nat) (bs : List Value) (s : ByteArray) (w : World) (h : Lib.IsBuilderF 86 5 B b bs w) (hlen : bs.length + s.size ≤ 140737488355328) (hBw : B ≤ w.heap.size) :
    Calls Try.prog 53 #[.pointer (some ⟨b, 0, none⟩), .string s] w fun e w' => e = .returned (.tuple #[.int .i64 s.size, .nilIface]) ∧ (Lib.BuilderAtF 86 5 B b (.pointer (some ⟨b, 0, none⟩)) (bs ++ Lib.strCells s) w' ∧ Below B w w' ∧ Lib.OthersKept 5 (some b) w w') := by
  obtain ⟨i0, hi, hz0, hz1, hz2⟩ := info_parts Try.info_u8
  go_enter Try.func53, Try.ntmps53
  go_wp2_with (go_at_call 83; refine (copyCheck_any B b bs _ h).mono ?_)
  rintro e w1 ⟨rfl, h1, hb1, hk1⟩
  obtain ⟨hB, v, hbk, hown, hne⟩ := h1
  have c0 : w1.cell? ⟨b, 0, none⟩ = some (.pointer (some ⟨b, 0, none⟩)) := by rw [Lib.cell_of_heap hbk]; rfl
  have c1 : w1.cell? ⟨b, 1, none⟩ = some v := by rw [Lib.cell_of_heap hbk]; rfl
  go_wp2_with (at_builtin; refine Lib.wpList_append_own_stringF _ rfl _ _ 84 9 rfl B 5 i0 Try.underlying84 Try.underlying9 hi hz0 hz1 hz2 _ _ _ rfl hown s rfl ?c3 ?c4 ?c5 ?_)
  case c3 => unfold maxLen; omega
  case c4 => omega
  case c5 => have := hb1.size; omega
  intro v' w2 hown' hgrow _
  have hlt : b < w1.heap.size := by
    rcases Nat.lt_or_ge b w1.heap.size with h' | h'
    · exact h'
    · simp [Array.getElem?_eq_none h'] at hbk
  have hb2 : w2.heap[b]? = some (.cells #[.pointer (some ⟨b, 0, none⟩), v] 86 (0, 0)) := by
    rw [hgrow.block b hlt (fun e => hne e.symm)]
    exact hbk
  have d0 : w2.cell? ⟨b, 0, none⟩ = some (.pointer (some ⟨b, 0, none⟩)) := by rw [Lib.cell_of_heap hb2]; rfl
  have d1 : w2.cell? ⟨b, 1, none⟩ = some v := by rw [Lib.cell_of_heap hb2]; rfl
  have f1 : w2.frozen? ⟨b, 1, none⟩ = false := Lib.frozen_of_heap hb2 1
  obtain ⟨ao, n', cap, rfl⟩ : ∃ ao n' cap, v' = .slice ao n' cap := by
    rcases hown'.2 with ⟨hv, _⟩ | ⟨g, cap, cur, fz, hv, _⟩
    · exact ⟨_, _, _, hv⟩
    · exact ⟨_, _, _, hv⟩
  go_wp2
  go_ret2
  refine ⟨rfl, ?_, ?_, (hk1.grown hgrow (Lib.ownsRowF_kind hown)).setCell ⟨b, 1, none⟩ rfl _⟩
  · exact Lib.BuilderAtF.put (T := 86) (e := 5) hB hb2 (bs' := bs ++ Lib.strCells s) (by simpa [Lib.strCells_length] using hown') (by decide)
  · exact (hb1.grown hgrow (by have := hb1.size; omega) (fun k hk => (hown.lt k hk).1)).setCell (p := ⟨b, 1, none⟩) hB _

/-- whatever is cells lies as it lay -/
def CellsKept (W W' : World) : Prop := ∀ (k : Nat) (c : Array Value) (t : TypeId) (f : Nat × Nat), W.heap[k]? = some (Obj.cells c t f) → W'.heap[k]? = some (Obj.cells c t f)
theorem CellsKept.put {W : World} {l r} (hr : W.heap[l]? = some (.loop r)) (o : Obj) : CellsKept W (W.putObj l o) :=
  fun k c t f hk => (World.putObj_heap_other (fun e => by rw [e, hr] at hk; cases hk)).trans hk
theorem CellsKept.below {W W' : World} (hb : Below W.heap.size W W') : CellsKept W W' := fun k c t f hk => (hb.block k (Array.getElem?_eq_some_iff.1 hk).1).trans hk
theorem CellsKept.alloc (W : World) (o : Obj) : CellsKept W (W.alloc o) := fun k c t f hk => (Below.heap_alloc W o k (Array.getElem?_eq_some_iff.1 hk).1).trans hk
theorem builderAtF_row {T e B b p bs W} (h : Lib.BuilderAtF T e B b p bs W) : ∃ v, W.heap[b]? = some (.cells #[p, v] T (0, 0)) := by
  obtain ⟨_, v, hb, _⟩ := h; exact ⟨v, hb⟩
theorem builderF_row {T e B b bs W} (h : Lib.IsBuilderF T e B b bs W) : ∃ c t f, W.heap[b]? = some (.cells c t f) := by
  rcases h with h | h <;> (obtain ⟨v, hb⟩ := builderAtF_row h; exact ⟨_, _, _, hb⟩)
theorem builderAtF_kept {T e B b p bs} {W W' : World} (h : Lib.BuilderAtF T e B b p bs W) (hk : CellsKept W W') : Lib.BuilderAtF T e B b p bs W' := by
  obtain ⟨hB, v, hb, ⟨hl, hown⟩, hne⟩ := h
  refine ⟨hB, v, hk _ _ _ _ hb, ⟨hl, ?_⟩, hne⟩
  rcases hown with hn | ⟨g, cap, cur, fz, hv, hbg, hg, rest⟩
  · exact .inl hn
  · exact .inr ⟨g, cap, cur, fz, hv, hbg, hk _ _ _ _ hg, rest⟩
theorem builderF_kept {T e B b bs} {W W' : World} (h : Lib.IsBuilderF T e B b bs W) (hk : CellsKept W W') : Lib.IsBuilderF T e B b bs W' :=
  h.elim (fun h => .inl (builderAtF_kept h hk)) (fun h => .inr (builderAtF_kept h hk))
theorem builderF_put {T e B b bs} {W : World} (h : Lib.IsBuilderF T e B b bs W) {l r} (hr : W.heap[l]? = some (.loop r)) (o : Obj) : Lib.IsBuilderF T e B b bs (W.putObj l o) :=
  builderF_kept h (CellsKept.put hr o)
theorem builderF_below {T e B b bs} {W W' : World} (h : Lib.IsBuilderF T e B b bs W) (hb : Below W.heap.size W W') : Lib.IsBuilderF T e B b bs W' :=
  builderF_kept h (CellsKept.below hb)
theorem builderF_alloc {T e B b bs} {W : World} (h : Lib.IsBuilderF T e B b bs W) (o : Obj) : Lib.IsBuilderF T e B b bs (W.alloc o) :=
  builderF_kept h (CellsKept.alloc W o)
theorem Bld_new (w : World) : Bld w.heap.size w.heap.size [] (w.alloc (.cells #[.pointer none, .slice none 0 0] 86)) := Lib.IsBuilderF.of (Lib.fresh_isBuilder _ _ w)
theorem byteCells_snoc (l : List UInt8) (c : UInt8) : Lib.byteCells l ++ [.int .u8 c.toNat] = Lib.byteCells (l ++ [c]) := by simp [Lib.byteCells]
theorem byteCells_append (l r : List UInt8) : Lib.byteCells l ++ Lib.byteCells r = Lib.byteCells (l ++ r) := by simp [Lib.byteCells]

/-- WriteByte at a builder of known octets. -/
theorem wbyte (B b : Nat) (l : List UInt8) (c : UInt8) (n : Int) (w : World) (hn : n = c.toNat) (h : Bld B b l w) (hlen : l.length ≤ 100000000) (hBw : B ≤ w.heap.size) :
    Calls Try.prog 87 #[.pointer (some ⟨b, 0, none⟩), .int .u8 n] w fun e w' => e = .returned .nilIface ∧ Bld B b (l ++ [c]) w' ∧ Below B w w' ∧ Lib.OthersKept 5 (some b) w w' := by
  subst hn
  refine (writeByte_any B b _ _ w h (by rw [Lib.byteCells_length]; omega) hBw).mono ?_
  rintro e w' ⟨rfl, h1, h2, h3⟩
  exact ⟨rfl, .inr (by rw [← byteCells_snoc]; exact h1), h2, h3⟩
theorem strCells_bytes (l : List UInt8) : Lib.strCells ⟨l.toArray⟩ = Lib.byteCells l := by simp [Lib.strCells, Lib.byteCells]
theorem wstring (B b : Nat) (l s : List UInt8) (w : World) (h : Bld B b l w) (hlen : l.length ≤ 100000000) (hs : s.length ≤ 100000000) (hBw : B ≤ w.heap.size) :
    Calls Try.prog 53 #[.pointer (some ⟨b, 0, none⟩), S s] w fun e w' => e = .returned (.tuple #[.int .i64 s.length, .nilIface]) ∧ Bld B b (l ++ s) w' ∧ Below B w w' ∧ Lib.OthersKept 5 (some b) w w' := by
  refine (writeString_any B b _ _ w h (by rw [Lib.byteCells_length, Go.ByteArray.size_mk_toArray]; omega) hBw).mono ?_
  rintro e w' ⟨rfl, h1, h2, h3⟩
  exact ⟨rfl, .inr (by rw [← byteCells_append, ← strCells_bytes s]; exact h1), h2, h3⟩

end Go.Proofs.Ytikibmeopndncaa
