/- Rows of things of k cells each: read, a part of them, appended to. -/
import Derived.Test.YtgmbefolgppmdaaGreatDoorKGdB
namespace Go.Proofs.YtgmbefolgppmdaaGreatDoor
open Go.RowKit Go.Shelf
set_option maxRecDepth 100000
def GRd (k : Nat) (v : Value) (xs : List (List Value)) (W : World) : Prop :=
 ∃ o cap, v = .slice o xs.length cap /\ xs.length <= cap /\ cap <= maxLen /\ (o = none -> cap = 0) /\ (∀ x ∈ xs, x.length = k /\ ∀ u ∈ x, u.oneCell' = true) /\
  ∀ i (h : i < xs.length) c, c < k -> ∃ a, o = some a /\ W.cell? (a.add (i * k + c)) = xs[i][c]?
theorem GRd.keep {k v xs} {W W' : World} (h : GRd k v xs W) (hk : ∀ p u, W.cell? p = some u -> W'.cell? p = some u) : GRd k v xs W' := by
 obtain ⟨o, cap, h1, h2, h3, h4, h5, h6⟩ := h
 refine ⟨o, cap, h1, h2, h3, h4, h5, fun i hi c hc => ?_⟩
 obtain ⟨a, ha, e⟩ := h6 i hi c hc
 refine ⟨a, ha, ?_⟩
 have hl : c < xs[i].length := by rw [(h5 _ (List.getElem_mem hi)).1]; exact hc
 rw [List.getElem?_eq_getElem hl] at e ⊢
 exact hk _ _ e
theorem GRd.below {k v xs} {W W' : World} (h : GRd k v xs W) (hb : Below W.heap.size W W') : GRd k v xs W' := h.keep fun _ _ e => (hb.cell (cell_lt e)).trans e
theorem GRd.cells_kept {k v xs} {W W' : World} (h : GRd k v xs W) (hk : CellsKept W W') : GRd k v xs W' := h.keep fun _ _ e => hk.cell e
theorem GRd.nil (k : Nat) (W : World) : GRd k (.slice none 0 0) [] W := ⟨none, 0, rfl, by simp, by unfold maxLen; omega, fun _ => rfl, by simp, fun i h => by simp at h⟩
theorem GRd.form {k v xs} {W : World} (h : GRd k v xs W) : ∃ o cap, v = .slice o xs.length cap /\ xs.length <= cap /\ cap <= 9223372036854775807 := by
 obtain ⟨o, cap, h1, h2, h3, _⟩ := h
 exact ⟨o, cap, h1, h2, by unfold maxLen at h3; exact h3⟩
theorem GRd.el {k : Nat} {o : Option Addr} {n cap : Nat} {xs : List (List Value)} {W : World} (h : GRd k (.slice o n cap) xs W) (hk : 0 < k) (i : Nat) (hi : i < xs.length) : ∃ a, o = some a /\ ∀ c, c < k -> W.cell? (a.add (i * k + c)) = xs[i][c]? := by
 obtain ⟨o', cap', e, _, _, _, _, h6⟩ := h
 cases e
 obtain ⟨a, ha, _⟩ := h6 i hi 0 hk
 refine ⟨a, ha, fun c hc => ?_⟩
 obtain ⟨a', ha', e⟩ := h6 i hi c hc
 rw [ha] at ha'; cases ha'; exact e
theorem GRd.at {k : Nat} {o : Option Addr} {n cap : Nat} {xs : List (List Value)} {W : World} (h : GRd k (.slice o n cap) xs W) (hk : 0 < k) (i : Nat) (hi : i < xs.length) : ∃ a, o = some a /\ W.cell? (a.add (i * k)) = xs[i][0]? /\ ∀ c, 0 < c -> c < k -> W.cell? ⟨(a.add (i * k)).block, (a.add (i * k)).off + c, none⟩ = xs[i][c]? := by
 obtain ⟨a, ha, h1⟩ := h.el hk i hi
 refine ⟨a, ha, h1 0 hk, fun c h0 hc => ?_⟩
 have h2 := h1 c hc
 rw [<- add_add'] at h2
 rw [<- h2]
 have h3 : ∀ q : Addr, (⟨q.block, q.off + c, none⟩ : Addr) = q.add c := fun q => by unfold Addr.add; rw [if_neg (by omega)]
 rw [h3]
theorem GRd.len {k v xs} {W : World} (h : GRd k v xs W) : ∀ x ∈ xs, x.length = k := by
 obtain ⟨_, _, _, _, _, _, h5, _⟩ := h; exact fun x hx => (h5 x hx).1
theorem GRd.one {k v xs} {W : World} (h : GRd k v xs W) : ∀ x ∈ xs, ∀ u ∈ x, u.oneCell' = true := by
 obtain ⟨_, _, _, _, _, _, h5, _⟩ := h; exact fun x hx => (h5 x hx).2
theorem flatten_len {k : Nat} : ∀ {xs : List (List Value)}, (∀ x ∈ xs, x.length = k) -> xs.flatten.length = xs.length * k
 | [], _ => by simp
 | x :: xs, h => by
  rw [List.flatten_cons, List.length_append, h x List.mem_cons_self, flatten_len (fun y hy => h y (List.mem_cons_of_mem _ hy)), List.length_cons, Nat.add_mul]; omega
theorem flatten_get {k : Nat} : ∀ {xs : List (List Value)}, (∀ x ∈ xs, x.length = k) -> ∀ (i c : Nat) (hi : i < xs.length) (_ : c < k), xs.flatten[i * k + c]? = xs[i][c]?
 | x :: xs, h, 0, c, _, hc => by
  have hx := h x List.mem_cons_self
  rw [List.flatten_cons, Nat.zero_mul, Nat.zero_add, List.getElem?_append_left (by omega)]; rfl
 | x :: xs, h, i + 1, c, hi, hc => by
  have hx := h x List.mem_cons_self
  have ih := flatten_get (fun y hy => h y (List.mem_cons_of_mem _ hy)) i c (by simpa using hi) hc
  rw [List.flatten_cons, List.getElem?_append_right (by rw [hx, Nat.add_mul]; omega), hx, show (i + 1) * k + c - k = i * k + c by rw [Nat.add_mul]; omega, ih]
  rfl
theorem Row.grd {R : Nat -> Prop} {e : TypeId} {k : Nat} {v : Value} {xs : List (List Value)} {W : World} (h : Row R e k v xs.length xs.flatten W) (hx : ∀ x ∈ xs, x.length = k /\ ∀ u ∈ x, u.oneCell' = true) : GRd k v xs W := by
 obtain ⟨⟨hl, ho⟩, _⟩ := h
 rcases ho with ⟨rfl, h0⟩ | ⟨g, cap, cur, rfl, _, hg, h1, h2, h3, h4⟩
 ·have : xs = [] := List.length_eq_zero_iff.1 h0
  subst this
  exact GRd.nil _ _
 ·refine ⟨some ⟨g, 0, none⟩, cap, rfl, h1, h2, (fun h => by cases h), hx, fun i hi c hc => ⟨_, rfl, ?_⟩⟩
  have hadd : ∀ j, (⟨g, 0, none⟩ : Addr).add j = ⟨g, j, none⟩ := fun j => by unfold Addr.add; split <;> simp_all
  rw [hadd, cell_of_row W g _ _ _ _ hg, <- flatten_get (fun x hx' => (hx x hx').1) i c hi hc, <- h4, List.getElem?_take]
  have : i * k + c < xs.length * k := by
   have : (i + 1) * k <= xs.length * k := Nat.mul_le_mul_right _ hi
   rw [Nat.add_mul] at this; omega
  rw [if_pos this]; simp
theorem GRd.new {k : Nat} (x : List Value) (hx : x.length = k) (h1 : ∀ u ∈ x, u.oneCell' = true) (W : World) (t : TypeId) : GRd k (.slice (some ⟨W.heap.size, 0, none⟩) 1 1) [x] (W.alloc (.cells x.toArray t)) := by
 refine ⟨some ⟨W.heap.size, 0, none⟩, 1, rfl, by simp, by unfold maxLen; omega, (fun h => by cases h), fun y hy => ?_, fun i hi c hc => ⟨_, rfl, ?_⟩⟩
 ·rw [List.mem_singleton] at hy; subst hy; exact ⟨hx, h1⟩
 ·have hi0 : i = 0 := by simpa using hi
  subst hi0
  have hadd : ∀ j, (⟨W.heap.size, 0, none⟩ : Addr).add j = ⟨W.heap.size, j, none⟩ := fun j => by unfold Addr.add; split <;> simp_all
  rw [hadd, cell_of_row _ W.heap.size _ _ t (0, 0) (World.alloc_heap_new W _)]
  simp
theorem GRd.drop {k : Nat} {o : Option Addr} {n cap : Nat} {xs : List (List Value)} {W : World} (h : GRd k (.slice o n cap) xs W) (i : Nat) (hi : i <= n) : GRd k (.slice (o.map (·.add (i * k))) (n - i) (cap - i)) (xs.drop i) W := by
 obtain ⟨o', cap', e, h2, h3, h4, h5, h6⟩ := h
 cases e
 refine ⟨_, cap - i, by rw [List.length_drop], by rw [List.length_drop]; omega, by omega, fun e => ?_, fun x hx => h5 x (List.mem_of_mem_drop hx), fun j hj c hc => ?_⟩
 ·cases o with
  | none => have := h4 rfl; omega
  | some a => cases e
 ·rw [List.length_drop] at hj
  obtain ⟨a, rfl, e⟩ := h6 (i + j) (by omega) c hc
  refine ⟨a.add (i * k), rfl, ?_⟩
  rw [add_add', show i * k + (j * k + c) = (i + j) * k + c by rw [Nat.add_mul]; omega, e]
  simp
theorem GRd.empty (k : Nat) (o : Option Addr) (cap : Nat) (hc : cap = 0) (W : World) : GRd k (.slice o 0 cap) [] W := ⟨o, cap, rfl, by simp, by unfold maxLen; omega, fun _ => hc, by simp, fun i h => by simp at h⟩
theorem GRd.take {k : Nat} {o : Option Addr} {n cap : Nat} {xs : List (List Value)} {W : World} (h : GRd k (.slice o n cap) xs W) (i c' : Nat) (hi : i <= n) (hic : i <= c') (hc : c' <= cap) (hn : o = none -> c' = 0) : GRd k (.slice o i c') (xs.take i) W := by
 obtain ⟨o', cap', e, h2, h3, h4, h5, h6⟩ := h
 cases e
 have hl : (xs.take i).length = i := by rw [List.length_take]; omega
 refine ⟨o, c', by rw [hl], by omega, by omega, hn, fun x hx => h5 x (List.mem_of_mem_take hx), fun j hj c hc => ?_⟩
 obtain ⟨a, ha, e⟩ := h6 j (by omega) c hc
 exact ⟨a, ha, by rw [e, List.getElem_take]⟩
section
variable {F : Fence} {n : Nat}
theorem append_g (R : Nat -> Prop) {ops : Array Oper} {rest : List Oper} {o : Oper} {a : Act} {w : World} {Q : Exit -> Act -> World -> Prop} (et : TypeId) (z : Value) (k bytes : Nat)
  (hinf : (Tryz.prog.info? et).map (fun i => (i.zero, i.size, i.bytes)) = some (some z, k, bytes)) (hz : z.cells.size = k) (hk : 0 < k)
  (hg : o.guard = none) (s x : Operand) (t : TypeId) (ht : Tryz.prog.underlying t = some (.slice et)) (hop : o.op = Op.call { callee := Callee.builtin Builtin.append, args := #[s, x], argTypes := #[t, t] })
  (v : Value) (j : Nat) (xs : List (List Value)) (hs : a.eval s = v) (hrow : Row R et k v j xs.flatten w) (u : Value) (l : List (List Value)) (hx : a.eval x = u) (hu : GRd k u l w) (hb : j + l.length <= 100000) (hby : bytes <= 1000000000) (hR : R w.heap.size)
  (hK : ∀ v' w', Row R et k v' (j + l.length) (xs ++ l).flatten w' -> w.grownBy w' v.ownBlock -> wpListIn F n Tryz.prog ops Q rest (a.put o.dst v') w') :
  wpListIn F n Tryz.prog ops Q (o :: rest) a w := by
 obtain ⟨i0, hi, hz0, hz1, hz2⟩ := info_parts hinf
 obtain ⟨oa, cap, rfl, h1, h2, h3, h4, h5⟩ := hu
 cases oa with
 | none =>
  obtain rfl : cap = 0 := h3 rfl
  have hl : l = [] := List.length_eq_zero_iff.1 (by omega)
  subst hl
  refine wpListIn_plain hg fun K hK' => ?_
  have hrun := run_append_owned_none (P := Tryz.prog) (w := w) 0 t o.type et i0 k ht hi v j _ hrow.1
  unfold Oper.wpIn
  refine ⟨?_, ?_⟩
  ·simp [Oper.about, hop, resolve, Target.leads, Sem.run_pure]
  ·rw [Oper.semAt_plain F _ _ (by rw [hop]; intro c hc'; cases hc')]
   simp only [List.length_nil] at hx
   simp [execOp, hop, resolve, invoke, builtin, hs, hx, hrun, Result.andThen]
   exact hK' _ _ (hK _ _ (by simpa using hrow) ⟨rfl, rfl, rfl, Nat.le_refl _, fun _ _ _ => rfl⟩)
 | some ad =>
  have hl5 : ∀ y ∈ l, y.length = k := fun y hy => (h4 y hy).1
  refine append_in R hg s x t hop et i0 z k bytes ht hi hz0 hz1 hz2 hz hk v j xs.flatten hs hrow ad l.length cap l.flatten hx (flatten_len hl5) (fun q u hq => ?_) (fun u hu => ?_) (by unfold maxLen; omega) (by
   have : (j + l.length) * bytes <= 100000 * 1000000000 := Nat.mul_le_mul hb hby
   omega) hR (fun v' w' hr hgr _ => hK v' w' (by rw [List.flatten_append]; exact hr) hgr)
  ·have hql : q < l.length * k := by
    rw [<- flatten_len hl5]; exact (List.getElem?_eq_some_iff.1 hq).1
   have q1 : q / k < l.length := by rw [Nat.div_lt_iff_lt_mul hk]; exact hql
   have q2 : q % k < k := Nat.mod_lt _ hk
   have q3 : q / k * k + q % k = q := by rw [Nat.mul_comm]; exact Nat.div_add_mod q k
   obtain ⟨a', ha, hc⟩ := h5 (q / k) q1 (q % k) q2
   cases ha
   rw [q3] at hc
   rw [hc, <- flatten_get hl5 _ _ q1 q2, q3, hq]
  ·obtain ⟨y, hy, huy⟩ := List.mem_flatten.1 hu
   exact (h4 y hy).2 u huy
end
end Go.Proofs.YtgmbefolgppmdaaGreatDoor
