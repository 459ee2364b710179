/- A slice that the call itself makes and appends to, its blocks named by R; what a slice of texts reads as. -/
import Derived.Test.YtgmbefolgppmdaaGreatDoorKRf
import Derived.Test.YtgmbefolgppmdaaGreatDoorKReg
namespace Go.Proofs.YtgmbefolgppmdaaGreatDoor
open Go.RowKit Go.Shelf
set_option maxRecDepth 100000
def Row (R : Nat -> Prop) (e : TypeId) (sz : Nat) (v : Value) (n : Nat) (xs : List Value) (W : World) : Prop := W.ownsRow 0 e sz v n xs /\ ∀ g, v.ownBlock = some g -> R g
theorem Row.nil (R : Nat -> Prop) (e : TypeId) (sz : Nat) (W : World) : Row R e sz (.slice none 0 0) 0 [] W := ⟨World.ownsRow_nil W 0 e sz, fun g h => by simp [Value.ownBlock] at h⟩
theorem Row.mono {R R' : Nat -> Prop} {e sz v n xs W} (h : Row R e sz v n xs W) (hr : ∀ g, R g -> R' g) : Row R' e sz v n xs W := ⟨h.1, fun g hg => hr g (h.2 g hg)⟩
theorem Row.kept {R e sz v n xs} {W W' : World} (h : Row R e sz v n xs W) (hk : ∀ g c t f, v.ownBlock = some g -> W.heap[g]? = some (.cells c t f) -> W'.heap[g]? = some (.cells c t f)) : Row R e sz v n xs W' := by
 obtain ⟨⟨hl, ho⟩, hr⟩ := h
 refine ⟨⟨hl, ?_⟩, hr⟩
 rcases ho with hn | ⟨g, cap, cur, hv, hb, hg, r⟩
 ·exact .inl hn
 ·exact .inr ⟨g, cap, cur, hv, hb, hk g _ _ _ (by rw [hv]; rfl) hg, r⟩
theorem Row.below {R e sz v n xs} {W W' : World} (h : Row R e sz v n xs W) (hb : Below W.heap.size W W') : Row R e sz v n xs W' := h.kept fun g c t f _ hg => CellsKept.below hb g c t f hg
theorem Row.alloc {R e sz v n xs} {W : World} (h : Row R e sz v n xs W) (o : Obj) : Row R e sz v n xs (W.alloc o) := h.kept fun g c t f _ hg => CellsKept.alloc W o g c t f hg
theorem Row.put {R e sz v n xs} {W : World} (h : Row R e sz v n xs W) {l r} (hr : W.heap[l]? = some (.loop r)) (o : Obj) : Row R e sz v n xs (W.putObj l o) := h.kept fun g c t f _ hg => CellsKept.put hr o g c t f hg
theorem Row.setOther {R e sz v n xs} {W : World} (h : Row R e sz v n xs W) {b o : Nat} (hb : ¬ R b) (u : Value) : Row R e sz v n xs (W.setCell ⟨b, o, none⟩ u) :=
 h.kept fun g c t f hv hg => (Below.heap_setCell _ _ _ _ (fun e => hb (by have := h.2 g hv; rw [e] at this; exact this))).trans hg
theorem Row.drew {R e sz v n xs} {W : World} (h : Row R e sz v n xs W) : Row R e sz v n xs W.drew := h.kept fun _ _ _ _ _ hg => hg
theorem Box.grown {b t v W W' row} {R : Nat -> Prop} (h : Box b t v W) (hg : W.grownBy W' row) (hr : ∀ g, row = some g -> R g) (hb : ¬ R b) : Box b t v W' :=
 (hg.block b h.lt (fun e => hb (hr b e.symm))).trans h
theorem Row.notLoop {R e sz v n xs W} (h : Row R e sz v n xs W) {j : Nat} {o : Obj} (hv : v.ownBlock = some j) (ho : W.heap[j]? = some o) : o.isCells = true := by
 obtain ⟨⟨_, ho'⟩, _⟩ := h
 rcases ho' with ⟨rfl, _⟩ | ⟨g, cap, cur, rfl, _, hg, _⟩
 ·simp [Value.ownBlock] at hv
 ·simp only [Value.ownBlock, Option.some.injEq] at hv; subst hv; rw [hg] at ho; cases ho; rfl
theorem Row.at {R e v n xs W} (h : Row R e 1 v n xs W) (hn : 0 < n) : ∃ g cap, v = .slice (some ⟨g, 0, none⟩) n cap /\ R g /\ n <= cap /\ cap <= maxLen /\ (∀ j (hj : j < xs.length), W.cell? ⟨g, j, none⟩ = some xs[j]) /\ (∀ j, W.frozen? ⟨g, j, none⟩ = false) /\
  (∀ j u, u.oneCell' = true -> Row R e 1 v n (xs.set j u) (W.setCell ⟨g, j, none⟩ u)) := by
 obtain ⟨⟨hl, ho⟩, hr⟩ := h
 rcases ho with ⟨rfl, rfl⟩ | ⟨g, cap, cur, rfl, _, hg, h1, h2, h3, h4⟩
 ·omega
 ·rw [Nat.mul_one] at h4 hl h3
  refine ⟨g, cap, rfl, hr g rfl, h1, h2, fun j hj => ?_, fun j => ?_, fun j u _ => ?_⟩
  ·rw [cell_of_row W g j _ _ _ hg]
   have := congrArg (fun l => l[j]?) h4
   simp only [List.getElem?_take, show j < n by omega, if_true, List.getElem?_eq_getElem hj] at this
   simpa using this
  ·simp [World.frozen?, hg]
  ·refine ⟨⟨by simpa using hl, .inr ⟨g, cap, cur.setIfInBounds j u, rfl, by omega, ?_, h1, h2, by simpa using h3, ?_⟩⟩, hr⟩
   ·simp [World.setCell, Array.getElem?_modify, hg]
   ·rw [Nat.mul_one, Array.toList_setIfInBounds, List.take_set, h4]
theorem Row.form {R e sz v n xs W} (h : Row R e sz v n xs W) : ∃ a cap, v = .slice a n cap := by
 obtain ⟨⟨_, ho⟩, _⟩ := h
 rcases ho with ⟨rfl, rfl⟩ | ⟨g, cap, cur, rfl, _⟩
 ·exact ⟨_, _, rfl⟩
 ·exact ⟨_, _, rfl⟩
theorem Row.keepsOthers {R e sz v n xs} {W W' : World} (h : Row R e sz v n xs W) (hg : W.grownBy W' v.ownBlock) : KeepsOthers W W' := KeepsOthers.of_grownBy hg fun _ _ hj ho => h.notLoop hj ho
section
variable {F : Fence} {n : Nat} {P : Program}
theorem append_in (R : Nat -> Prop) {ops : Array Oper} {rest : List Oper} {o : Oper} {a : Act} {w : World} {Q : Exit -> Act -> World -> Prop}
  (hg : o.guard = none) (s x : Operand) (t : TypeId) (hop : o.op = Op.call { callee := Callee.builtin Builtin.append, args := #[s, x], argTypes := #[t, t] })
  (e : TypeId) (i : TypeInfo) (z : Value) (sz bytes : Nat) (h1 : P.underlying t = some (.slice e)) (h2 : P.info? e = some i) (h3 : i.zero = some z) (h4 : i.size = sz) (h5 : i.bytes = bytes) (h6 : z.cells.size = sz) (h7 : 0 < sz)
  (v : Value) (k : Nat) (xs : List Value) (hs : a.eval s = v) (hrow : Row R e sz v k xs w) (ad : Addr) (m c : Nat) (news : List Value) (hx : a.eval x = .slice (some ad) m c) (hn : news.length = m * sz)
  (hc : ∀ j u, news[j]? = some u -> w.cell? (ad.add j) = some u) (h1c : ∀ u ∈ news, u.oneCell' = true) (b1 : k + m <= maxLen) (b2 : (k + m) * bytes <= 140737488355328) (hR : R w.heap.size)
  (hK : ∀ v' w', Row R e sz v' (k + m) (xs ++ news) w' -> w.grownBy w' v.ownBlock -> (v' = .slice none 0 0 ↔ v = .slice none 0 0 /\ m = 0) -> wpListIn F n P ops Q rest (a.put o.dst v') w') :
  wpListIn F n P ops Q (o :: rest) a w := by
 refine wpListIn_plain hg fun K hK' => ?_
 obtain ⟨v', w', hrun, r1, r2, r3, r4⟩ := run_append_own_at (P := P) (w := w) 0 t o.type e i z sz bytes h1 h2 h3 h4 h5 h6 h7 v k xs hrow.1 ad m c news hn hc h1c b1 b2 (Nat.zero_le _)
 unfold Oper.wpIn
 refine ⟨?_, ?_⟩
 ·simp [Oper.about, hop, resolve, Target.leads, Sem.run_pure]
 ·rw [Oper.semAt_plain F _ _ (by rw [hop]; intro c hc'; cases hc')]
  simp [execOp, hop, resolve, invoke, builtin, hs, hx, hrun, Result.andThen]
  refine hK' _ _ (hK v' w' ⟨r1, fun g hg' => ?_⟩ r2 r3)
  rcases r4 with r4 | r4
  ·rw [r4] at hg'; exact hrow.2 g hg'
  ·rw [r4] at hg'; cases hg'; exact hR
end
def RdStrs (v : Value) (l : List (List UInt8)) (W : World) : Prop :=
 (v = .slice none 0 0 /\ l = []) \/ ∃ g off cap, v = .slice (some ⟨g, off, none⟩) l.length cap /\ l.length <= cap /\ cap <= maxLen /\ g < W.heap.size /\ ∀ j (h : j < l.length), W.cell? ⟨g, off + j, none⟩ = some (S l[j])
theorem RdStrs.below {v l} {W W' : World} (h : RdStrs v l W) (hb : Below W.heap.size W W') : RdStrs v l W' := by
 rcases h with h | ⟨g, off, cap, h1, h2, h2', h3, h4⟩
 ·exact .inl h
 ·exact .inr ⟨g, off, cap, h1, h2, h2', by have := hb.size; omega, fun j hj => (hb.cell (p := ⟨g, off + j, none⟩) h3).trans (h4 j hj)⟩
theorem Row.strs {R e v l W} (h : Row R e 1 v l.length (l.map S) W) : RdStrs v l W := by
 obtain ⟨⟨hl, ho⟩, _⟩ := h
 rcases ho with ⟨rfl, h0⟩ | ⟨g, cap, cur, rfl, _, hg, h1, h2, h3, h4⟩
 ·exact .inl ⟨rfl, by simpa using h0⟩
 ·refine .inr ⟨g, 0, cap, rfl, h1, h2, (Array.getElem?_eq_some_iff.1 hg).1, fun j hj => ?_⟩
  rw [Nat.zero_add, cell_of_row W g j _ _ _ hg]
  have := congrArg (fun l => l[j]?) h4
  simp only [List.getElem?_take, List.getElem?_map, Nat.mul_one, hj, if_true, List.getElem?_eq_getElem, Option.map_some] at this
  simpa using this
end Go.Proofs.YtgmbefolgppmdaaGreatDoor
