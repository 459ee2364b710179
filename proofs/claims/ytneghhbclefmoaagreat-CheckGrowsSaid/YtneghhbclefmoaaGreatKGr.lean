/- Rows of things of k cells each: read, a part of them, appended to. -/
import Derived.Test.YtneghhbclefmoaaGreatKGdB
import Derived.Test.YtneghhbclefmoaaGreatKRsC
section
namespace Go.Proofs.YtneghhbclefmoaaGreat
open Go.RowKit Go.Shelf
set_option maxRecDepth 100000
def GRd (k : Nat) (v : Value) (xs : List (List Value)) (W : World) : Prop :=
 ∃ o cap, v = .slice o xs.length cap /\ xs.length <= cap /\ cap <= maxLen /\ (o = none -> cap = 0) /\ (∀ x ∈ xs, x.length = k /\ ∀ u ∈ x, u.oneCell' = true) /\
  ∀ i (h : i < xs.length) c, c < k -> ∃ a, o = some a /\ W.cell? (a.add (i * k + c)) = xs[i][c]?
theorem GRd.keep {k v xs} {W W' : World} (h : GRd k v xs W) (hk : ∀ p u, W.cell? p = some u -> W'.cell? p = some u) : GRd k v xs W' := by
 obtain ⟨o, cap, h1, h2, h3, h4, h5, h6⟩ := h
 refine ⟨o, cap, h1, h2, h3, h4, h5, fun i hi c hc => ?_⟩
 obtain ⟨a, ha, e⟩ := h6 i hi c hc
 refine ⟨a, ha, ?_⟩
 have hl : c < xs[i].length := by rw [(h5 _ (List.getElem_mem hi)).1]; exact hc
 rw [List.getElem?_eq_getElem hl] at e ⊢
 exact hk _ _ e
theorem GRd.below {k v xs} {W W' : World} (h : GRd k v xs W) (hb : Below W.heap.size W W') : GRd k v xs W' := h.keep fun _ _ e => (hb.cell (cell_lt e)).trans e
theorem GRd.cells_kept {k v xs} {W W' : World} (h : GRd k v xs W) (hk : CellsKept W W') : GRd k v xs W' := h.keep fun _ _ e => hk.cell e
theorem GRd.nil (k : Nat) (W : World) : GRd k (.slice none 0 0) [] W := ⟨none, 0, rfl, by simp, by unfold maxLen; omega, fun _ => rfl, by simp, fun i h => by simp at h⟩
theorem GRd.form {k v xs} {W : World} (h : GRd k v xs W) : ∃ o cap, v = .slice o xs.length cap /\ xs.length <= cap /\ cap <= 9223372036854775807 := by
 obtain ⟨o, cap, h1, h2, h3, _⟩ := h
 exact ⟨o, cap, h1, h2, by unfold maxLen at h3; exact h3⟩
theorem GRd.el {k : Nat} {o : Option Addr} {n cap : Nat} {xs : List (List Value)} {W : World} (h : GRd k (.slice o n cap) xs W) (hk : 0 < k) (i : Nat) (hi : i < xs.length) : ∃ a, o = some a /\ ∀ c, c < k -> W.cell? (a.add (i * k + c)) = xs[i][c]? := by
 obtain ⟨o', cap', e, _, _, _, _, h6⟩ := h
 cases e
 obtain ⟨a, ha, _⟩ := h6 i hi 0 hk
 refine ⟨a, ha, fun c hc => ?_⟩
 obtain ⟨a', ha', e⟩ := h6 i hi c hc
 rw [ha] at ha'; cases ha'; exact e
theorem GRd.at {k : Nat} {o : Option Addr} {n cap : Nat} {xs : List (List Value)} {W : World} (h : GRd k (.slice o n cap) xs W) (hk : 0 < k) (i : Nat) (hi : i < xs.length) : ∃ a, o = some a /\ W.cell? (a.add (i * k)) = xs[i][0]? /\ ∀ c, 0 < c -> c < k -> W.cell? ⟨(a.add (i * k)).block, (a.add (i * k)).off + c, none⟩ = xs[i][c]? := by
 obtain ⟨a, ha, h1⟩ := h.el hk i hi
 refine ⟨a, ha, h1 0 hk, fun c h0 hc => ?_⟩
 have h2 := h1 c hc
 rw [<- add_add'] at h2
 rw [<- h2]
 have h3 : ∀ q : Addr, (⟨q.block, q.off + c, none⟩ : Addr) = q.add c := fun q => by unfold Addr.add; rw [if_neg (by omega)]
 rw [h3]
theorem GRd.len {k v xs} {W : World} (h : GRd k v xs W) : ∀ x ∈ xs, x.length = k := by
 obtain ⟨_, _, _, _, _, _, h5, _⟩ := h; exact fun x hx => (h5 x hx).1
theorem GRd.one {k v xs} {W : World} (h : GRd k v xs W) : ∀ x ∈ xs, ∀ u ∈ x, u.oneCell' = true := by
 obtain ⟨_, _, _, _, _, _, h5, _⟩ := h; exact fun x hx => (h5 x hx).2
theorem flatten_len {k : Nat} : ∀ {xs : List (List Value)}, (∀ x ∈ xs, x.length = k) -> xs.flatten.length = xs.length * k
 | [], _ => by simp
 | x :: xs, h => by
  rw [List.flatten_cons, List.length_append, h x List.mem_cons_self, flatten_len (fun y hy => h y (List.mem_cons_of_mem _ hy)), List.length_cons, Nat.add_mul]; omega
theorem flatten_get {k : Nat} : ∀ {xs : List (List Value)}, (∀ x ∈ xs, x.length = k) -> ∀ (i c : Nat) (hi : i < xs.length) (_ : c < k), xs.flatten[i * k + c]? = xs[i][c]?
 | x :: xs, h, 0, c, _, hc => by
  have hx := h x List.mem_cons_self
  rw [List.flatten_cons, Nat.zero_mul, Nat.zero_add, List.getElem?_append_left (by omega)]; rfl
 | x :: xs, h, i + 1, c, hi, hc => by
  have hx := h x List.mem_cons_self
  have ih := flatten_get (fun y hy => h y (List.mem_cons_of_mem _ hy)) i c (by simpa using hi) hc
  rw [List.flatten_cons, List.getElem?_append_right (by rw [hx, Nat.add_mul]; omega), hx, show (i + 1) * k + c - k = i * k + c by rw [Nat.add_mul]; omega, ih]
  rfl
theorem Row.grd {R : Nat -> Prop} {e : TypeId} {k : Nat} {v : Value} {xs : List (List Value)} {W : World} (h : Row R e k v xs.length xs.flatten W) (hx : ∀ x ∈ xs, x.length = k /\ ∀ u ∈ x, u.oneCell' = true) : GRd k v xs W := by
 obtain ⟨⟨hl, ho⟩, _⟩ := h
 rcases ho with ⟨rfl, h0⟩ | ⟨g, cap, cur, rfl, _, hg, h1, h2, h3, h4⟩
 ·have : xs = [] := List.length_eq_zero_iff.1 h0
  subst this
  exact GRd.nil _ _
 ·refine ⟨some ⟨g, 0, none⟩, cap, rfl, h1, h2, (fun h => by cases h), hx, fun i hi c hc => ⟨_, rfl, ?_⟩⟩
  have hadd : ∀ j, (⟨g, 0, none⟩ : Addr).add j = ⟨g, j, none⟩ := fun j => by unfold Addr.add; split <;> simp_all
  rw [hadd, cell_of_row W g _ _ _ _ hg, <- flatten_get (fun x hx' => (hx x hx').1) i c hi hc, <- h4, List.getElem?_take]
  have : i * k + c < xs.length * k := by
   have : (i + 1) * k <= xs.length * k := Nat.mul_le_mul_right _ hi
   rw [Nat.add_mul] at this; omega
  rw [if_pos this]; simp
theorem GRd.new {k : Nat} (x : List Value) (hx : x.length = k) (h1 : ∀ u ∈ x, u.oneCell' = true) (W : World) (t : TypeId) : GRd k (.slice (some ⟨W.heap.size, 0, none⟩) 1 1) [x] (W.alloc (.cells x.toArray t)) := by
 refine ⟨some ⟨W.heap.size, 0, none⟩, 1, rfl, by simp, by unfold maxLen; omega, (fun h => by cases h), fun y hy => ?_, fun i hi c hc => ⟨_, rfl, ?_⟩⟩
 ·rw [List.mem_singleton] at hy; subst hy; exact ⟨hx, h1⟩
 ·have hi0 : i = 0 := by simpa using hi
  subst hi0
  have hadd : ∀ j, (⟨W.heap.size, 0, none⟩ : Addr).add j = ⟨W.heap.size, j, none⟩ := fun j => by unfold Addr.add; split <;> simp_all
  rw [hadd, cell_of_row _ W.heap.size _ _ t (0, 0) (World.alloc_heap_new W _)]
  simp
theorem GRd.drop {k : Nat} {o : Option Addr} {n cap : Nat} {xs : List (List Value)} {W : World} (h : GRd k (.slice o n cap) xs W) (i : Nat) (hi : i <= n) : GRd k (.slice (o.map (·.add (i * k))) (n - i) (cap - i)) (xs.drop i) W := by
 obtain ⟨o', cap', e, h2, h3, h4, h5, h6⟩ := h
 cases e
 refine ⟨_, cap - i, by rw [List.length_drop], by rw [List.length_drop]; omega, by omega, fun e => ?_, fun x hx => h5 x (List.mem_of_mem_drop hx), fun j hj c hc => ?_⟩
 ·cases o with
  | none => have := h4 rfl; omega
  | some a => cases e
 ·rw [List.length_drop] at hj
  obtain ⟨a, rfl, e⟩ := h6 (i + j) (by omega) c hc
  refine ⟨a.add (i * k), rfl, ?_⟩
  rw [add_add', show i * k + (j * k + c) = (i + j) * k + c by rw [Nat.add_mul]; omega, e]
  simp
theorem GRd.empty (k : Nat) (o : Option Addr) (cap : Nat) (hc : cap = 0) (W : World) : GRd k (.slice o 0 cap) [] W := ⟨o, cap, rfl, by simp, by unfold maxLen; omega, fun _ => hc, by simp, fun i h => by simp at h⟩
theorem GRd.drop0 {k : Nat} {o : Option Addr} {n cap : Nat} {xs : List (List Value)} {W : World} (h : GRd k (.slice o n cap) xs W) (i : Nat) (hi : i <= n) (hc : cap = i) : GRd k (.slice o (n - i) 0) (xs.drop i) W := by
 obtain ⟨o', cap', e, h2, _⟩ := h
 cases e
 rw [List.drop_of_length_le (by omega), show xs.length - i = 0 by omega]
 exact GRd.empty k o 0 rfl W
theorem GRd.take {k : Nat} {o : Option Addr} {n cap : Nat} {xs : List (List Value)} {W : World} (h : GRd k (.slice o n cap) xs W) (i c' : Nat) (hi : i <= n) (hic : i <= c') (hc : c' <= cap) (hn : o = none -> c' = 0) : GRd k (.slice o i c') (xs.take i) W := by
 obtain ⟨o', cap', e, h2, h3, h4, h5, h6⟩ := h
 cases e
 have hl : (xs.take i).length = i := by rw [List.length_take]; omega
 refine ⟨o, c', by rw [hl], by omega, by omega, hn, fun x hx => h5 x (List.mem_of_mem_take hx), fun j hj c hc => ?_⟩
 obtain ⟨a, ha, e⟩ := h6 j (by omega) c hc
 exact ⟨a, ha, by rw [e, List.getElem_take]⟩
section
variable {F : Fence} {n : Nat}
theorem append_g (R : Nat -> Prop) {ops : Array Oper} {rest : List Oper} {o : Oper} {a : Act} {w : World} {Q : Exit -> Act -> World -> Prop} (et : TypeId) (z : Value) (k bytes : Nat)
  (hinf : (Tryz.prog.info? et).map (fun i => (i.zero, i.size, i.bytes)) = some (some z, k, bytes)) (hz : z.cells.size = k) (hk : 0 < k)
  (hg : o.guard = none) (s x : Operand) (t : TypeId) (ht : Tryz.prog.underlying t = some (.slice et)) (hop : o.op = Op.call { callee := Callee.builtin Builtin.append, args := #[s, x], argTypes := #[t, t] })
  (v : Value) (j : Nat) (xs : List (List Value)) (hs : a.eval s = v) (hrow : Row R et k v j xs.flatten w) (u : Value) (l : List (List Value)) (hx : a.eval x = u) (hu : GRd k u l w) (hb : j + l.length <= 100000) (hby : bytes <= 1000000000) (hR : R w.heap.size)
  (hK : ∀ v' w', Row R et k v' (j + l.length) (xs ++ l).flatten w' -> w.grownBy w' v.ownBlock -> wpListIn F n Tryz.prog ops Q rest (a.put o.dst v') w') :
  wpListIn F n Tryz.prog ops Q (o :: rest) a w := by
 obtain ⟨i0, hi, hz0, hz1, hz2⟩ := info_parts hinf
 obtain ⟨oa, cap, rfl, h1, h2, h3, h4, h5⟩ := hu
 cases oa with
 | none =>
  obtain rfl : cap = 0 := h3 rfl
  have hl : l = [] := List.length_eq_zero_iff.1 (by omega)
  subst hl
  refine wpListIn_plain hg fun K hK' => ?_
  have hrun := run_append_owned_none (P := Tryz.prog) (w := w) 0 t o.type et i0 k ht hi v j _ hrow.1
  unfold Oper.wpIn
  refine ⟨?_, ?_⟩
  ·simp [Oper.about, hop, resolve, Target.leads, Sem.run_pure]
  ·rw [Oper.semAt_plain F _ _ (by rw [hop]; intro c hc'; cases hc')]
   simp only [List.length_nil] at hx
   simp [execOp, hop, resolve, invoke, builtin, hs, hx, hrun, Result.andThen]
   exact hK' _ _ (hK _ _ (by simpa using hrow) ⟨rfl, rfl, rfl, Nat.le_refl _, fun _ _ _ => rfl⟩)
 | some ad =>
  have hl5 : ∀ y ∈ l, y.length = k := fun y hy => (h4 y hy).1
  refine append_in R hg s x t hop et i0 z k bytes ht hi hz0 hz1 hz2 hz hk v j xs.flatten hs hrow ad l.length cap l.flatten hx (flatten_len hl5) (fun q u hq => ?_) (fun u hu => ?_) (by unfold maxLen; omega) (by
   have : (j + l.length) * bytes <= 100000 * 1000000000 := Nat.mul_le_mul hb hby
   omega) hR (fun v' w' hr hgr _ => hK v' w' (by rw [List.flatten_append]; exact hr) hgr)
  ·have hql : q < l.length * k := by
    rw [<- flatten_len hl5]; exact (List.getElem?_eq_some_iff.1 hq).1
   have q1 : q / k < l.length := by rw [Nat.div_lt_iff_lt_mul hk]; exact hql
   have q2 : q % k < k := Nat.mod_lt _ hk
   have q3 : q / k * k + q % k = q := by rw [Nat.mul_comm]; exact Nat.div_add_mod q k
   obtain ⟨a', ha, hc⟩ := h5 (q / k) q1 (q % k) q2
   cases ha
   rw [q3] at hc
   rw [hc, <- flatten_get hl5 _ _ q1 q2, q3, hq]
  ·obtain ⟨y, hy, huy⟩ := List.mem_flatten.1 hu
   exact (h4 y hy).2 u huy
end
end Go.Proofs.YtneghhbclefmoaaGreat
end
section
namespace Go.Proofs.YtneghhbclefmoaaGreat
open Go.RowKit Go.Shelf Go.Sort
set_option maxRecDepth 100000
theorem Row.some_block {R e sz v n xs W} (h : Row R e sz v n xs W) (hn : 0 < n) : ∃ g cap, v = .slice (some ⟨g, 0, none⟩) n cap := by
 obtain ⟨⟨_, ho⟩, _⟩ := h
 rcases ho with ⟨rfl, h0⟩ | ⟨g, cap, cur, rfl, _⟩
 ·omega
 ·exact ⟨g, cap, rfl⟩
theorem Row.put_row {R : Nat -> Prop} {e : TypeId} {n g cap : Nat} {xs : List Value} {W : World} (h : Row R e 1 (.slice (some ⟨g, 0, none⟩) n cap) n xs W) (d : Array Int) (hd : d.size = n) (q : Nat) (os : Array Obj) :
  Row R e 1 (.slice (some ⟨g, 0, none⟩) n cap) n (d.toList.map I64) (Sort.grow (Sort.putRow (Value.int .i64) (Sort.ahead W q) g 0 d) os) /\ W.grownBy (Sort.grow (Sort.putRow (Value.int .i64) (Sort.ahead W q) g 0 d) os) (some g) := by
 obtain ⟨⟨hl, ho⟩, hr⟩ := h
 rcases ho with ⟨h0, _⟩ | ⟨g', cap', cur, h0, hb, hg, h1, h2, h3, h4⟩
 ·cases h0
 ·cases h0
  have hlt := (Array.getElem?_eq_some_iff.1 hg).1
  have hblk : (Sort.grow (Sort.putRow (Value.int .i64) (Sort.ahead W q) g 0 d) os).heap[g]? = some (.cells (Sort.putCells (Value.int .i64) 0 d cur) e (0, 0)) := by
   show (Array.modify _ _ _ ++ os)[g]? = _
   rw [Array.getElem?_append_left (by rw [Array.size_modify]; exact hlt), Array.getElem?_modify, if_pos rfl]
   show Option.map _ (W.heap[g]?) = _
   rw [hg]; rfl
  refine ⟨⟨⟨by simp [hd], .inr ⟨g, cap, _, rfl, hb, hblk, h1, h2, by simp [Sort.putCells, h3], ?_⟩⟩, hr⟩, rfl, rfl, rfl, ?_, fun k hk hne => ?_⟩
  ·refine List.ext_getElem? fun j => ?_
   rw [List.getElem?_take, Nat.mul_one]
   split
   ·rename_i hj
    have hjc : j < cur.size := by rw [Nat.mul_one] at h3; omega
    simp only [Sort.putCells, Array.getElem?_toList, Array.getElem?_mapIdx, Array.getElem?_eq_getElem hjc, Option.map_some, Nat.zero_le, Nat.zero_add, true_and, List.getElem?_map, Nat.sub_zero]
    rw [if_pos (by omega), Array.getElem?_eq_getElem (show j < d.size by omega), getElem!_pos d j (by omega)]
    rfl
   ·rename_i hj
    rw [List.getElem?_eq_none (by simp [hd]; omega)]
  ·show W.heap.size <= (Array.modify _ _ _ ++ os).size
   rw [Array.size_append, Array.size_modify]; exact Nat.le_add_right _ _
  ·show (Array.modify _ _ _ ++ os)[k]? = _
   rw [Array.getElem?_append_left (by rw [Array.size_modify]; exact hk), Array.getElem?_modify, if_neg (fun e => hne (by rw [e]))]
   rfl
theorem Row.holds {R : Nat -> Prop} {e : TypeId} {n g cap : Nat} {zs : List Int} {W : World} (h : Row R e 1 (.slice (some ⟨g, 0, none⟩) n cap) n (zs.map I64) W) (hz : zs.length = n) : Sort.Holds (Value.int .i64) W g 0 zs.toArray /\ g < W.heap.size /\ n <= cap := by
 obtain ⟨⟨hl, ho⟩, hr⟩ := h
 rcases ho with ⟨h0, _⟩ | ⟨g', cap', cur, h0, hb, hg, h1, h2, h3, h4⟩
 ·cases h0
 ·cases h0
  refine ⟨fun j hj => ⟨?_, by simp [World.frozen?, hg]⟩, (Array.getElem?_eq_some_iff.1 hg).1, h1⟩
  have hj' : j < zs.length := by simpa using hj
  rw [Nat.zero_add, cell_of_row W g j _ _ _ hg]
  have := congrArg (fun l => l[j]?) h4
  simp only [List.getElem?_take, Nat.mul_one, show j < n by omega, if_true, List.getElem?_map, List.getElem?_eq_getElem hj', Option.map_some] at this
  rw [getElem!_pos zs.toArray j hj]
  simpa using this
set_option maxHeartbeats 1000000 in
theorem sortInts_any {R : Nat -> Prop} (v : Value) (zs : List Int) (w0 w : World) (hrow : Row R 3 1 v zs.length (zs.map I64) w) (hR : ∀ g, R g -> w0.heap.size <= g) (hb : Below w0.heap.size w0 w) (hn : zs.length <= 1000000) :
  Calls Tryz.prog 155 #[v] w fun e w' => e = .returned (.tuple #[]) /\ Row R 3 1 v zs.length ((zs.mergeSort fun x y => decide (x <= y)).map I64) w' /\ Below w0.heap.size w0 w' /\ w.grownBy w' v.ownBlock := by
 rcases Nat.eq_zero_or_pos zs.length with h0 | hp
 ·obtain rfl := List.length_eq_zero_iff.1 h0
  obtain ⟨a, cap, rfl⟩ := hrow.form
  refine (Tryz.slices_Sort_int_none a cap w).mono ?_
  rintro e w' ⟨rfl, rfl⟩
  refine ⟨rfl, ?_, hb, rfl, rfl, rfl, Nat.le_refl _, fun _ _ _ => rfl⟩
  simpa using hrow
 ·obtain ⟨g, cap, rfl⟩ := hrow.some_block hp
  obtain ⟨hH, hg, hc⟩ := hrow.holds rfl
  refine (Tryz.slices_Sort_int g 0 cap zs w hH hg (by omega)).mono ?_
  rintro e w' ⟨rfl, q, os, rfl⟩
  obtain ⟨h1, h2⟩ := hrow.put_row (zs.mergeSort fun x y => decide (x <= y)).toArray (by simp) q os
  exact ⟨rfl, h1, hb.grown h2 hb.size (fun k hk => by cases hk; exact hR _ (hrow.2 _ rfl)), h2⟩
theorem compact_len (zs : List Int) : (Lib.compact zs).length <= zs.length := by
 exact Lib.compact_length_le zs
theorem Row.less {R : Nat -> Prop} {e : TypeId} {n m g cap : Nat} {xs : List Value} {W : World} (h : Row R e 1 (.slice (some ⟨g, 0, none⟩) n cap) n xs W) (hm : m <= n) : Row R e 1 (.slice (some ⟨g, 0, none⟩) m cap) m (xs.take m) W := by
 obtain ⟨⟨hl, ho⟩, hr⟩ := h
 rcases ho with ⟨h0, _⟩ | ⟨g', cap', cur, h0, hb, hg, h1, h2, h3, h4⟩
 ·cases h0
 ·cases h0
  refine ⟨⟨by rw [List.length_take]; omega, .inr ⟨g, cap, cur, rfl, hb, hg, by omega, h2, h3, ?_⟩⟩, fun k hk => hr k hk⟩
  rw [<- h4, List.take_take]; congr 1; omega
set_option maxHeartbeats 1000000 in
theorem compactInts_any {R : Nat -> Prop} (v : Value) (zs : List Int) (w0 w : World) (hrow : Row R 3 1 v zs.length (zs.map I64) w) (hR : ∀ g, R g -> w0.heap.size <= g) (hb : Below w0.heap.size w0 w) (hn : zs.length <= 1000000) :
  Calls Tryz.prog 157 #[v] w fun e w' => ∃ v', e = .returned v' /\ Row R 3 1 v' (Lib.compact zs).length ((Lib.compact zs).map I64) w' /\ Below w0.heap.size w0 w' /\ w.grownBy w' v.ownBlock := by
 rcases Nat.eq_zero_or_pos zs.length with h0 | hp
 ·obtain rfl := List.length_eq_zero_iff.1 h0
  obtain ⟨a, cap, rfl⟩ := hrow.form
  refine (Tryz.slices_Compact_int_empty a cap w).mono ?_
  rintro e w' ⟨rfl, rfl⟩
  exact ⟨_, rfl, hrow, hb, rfl, rfl, rfl, Nat.le_refl _, fun _ _ _ => rfl⟩
 ·obtain ⟨g, cap, rfl⟩ := hrow.some_block hp
  obtain ⟨hH, hg, hc⟩ := hrow.holds rfl
  have hcl := compact_len zs
  refine (Tryz.slices_Compact_int g 0 cap zs w hH (by omega) hc).mono ?_
  rintro e w' ⟨rfl, q, rfl⟩
  obtain ⟨h1, h2⟩ := hrow.put_row (Lib.compact zs ++ List.replicate (zs.length - (Lib.compact zs).length) 0).toArray (by simp; omega) q #[]
  have hgr : ∀ W : World, Sort.grow W #[] = W := fun W => by unfold Sort.grow; simp
  rw [hgr] at h1 h2
  have h3 := h1.less hcl
  rw [<- List.map_take, List.take_left' rfl] at h3
  exact ⟨_, rfl, h3, hb.grown h2 hb.size (fun k hk => by cases hk; exact hR _ (hrow.2 _ rfl)), h2⟩
set_option maxHeartbeats 1000000 in
theorem clipInts_any {R : Nat -> Prop} (v : Value) (zs : List Int) (w : World) (hrow : Row R 3 1 v zs.length (zs.map I64) w) (hn : zs.length <= 1000000) :
  Calls Tryz.prog 156 #[v] w fun e w' => ∃ v', e = .returned v' /\ Sl v' (zs.map I64) w /\ w' = w := by
 have hs : Sl v (zs.map I64) w := Row.sl (by rw [List.length_map]; exact hrow)
 obtain ⟨o, cap, rfl, h1, h2, h3, h4⟩ := hs
 have h2' := h2
 unfold maxLen at h2
 rw [List.length_map] at h1 ⊢
 have n1 : (zs.length : Int) <= 1000000 := by omega
 have HO := Lib.hid (show o = none -> zs.length = 0 from fun h => by have := h3 h; omega)
 have H4 := Lib.hid h4
 have H2 := Lib.hid h2'
 clear h3 h4 hrow h2'
 go_enter Tryz.func156, Tryz.ntmps156
 go_wp2_with fail
 go_ret
 exact ⟨.slice o zs.length zs.length, rfl, ⟨o, zs.length, by rw [List.length_map], by rw [List.length_map]; exact Nat.le_refl _, by have := H2.out; omega, HO.out, H4.out⟩, rfl⟩
end Go.Proofs.YtneghhbclefmoaaGreat
end
section
namespace Go.Proofs.YtneghhbclefmoaaGreat
open Go.RowKit Go.Shelf Go.Sort
set_option maxRecDepth 100000
namespace Rs
open Rc
def types (L : List PRec) (o : List (List UInt8)) : List Int := Lib.compact (((L.filter fun r => Nm.same r.owner o).map (·.type)).mergeSort fun x y => decide (x <= y))
end Rs
theorem info_int : (Tryz.prog.info? 3).map (fun i => (i.zero, i.size, i.bytes)) = some (some (.int .i64 0), 1, 8) := by kernel_rfl
theorem flatten_one (l : List Value) : (l.map fun x => [x]).flatten = l := by induction l with
 | nil => rfl
 | cons x l ih => simp [ih]
set_option maxHeartbeats 2000000 in
theorem types_any {w w0 : World} (vr vo : Value) (l : List (El w)) (o : List (List UInt8)) (hb0 : Below w.heap.size w w0) (hv : RecsRd vr (l.map (·.1)) w0) (na : l.length <= 1000) (ho : Rd vo o w0) (no : NB o) :
  Calls Tryz.prog 129 #[vr, vo] w0 fun e w' => ∃ v, e = .returned v /\ Sl v ((Rs.types (plE l) o).map I64) w' /\ Below w0.heap.size w0 w' := by
 obtain ⟨oo, co, rfl, _, _⟩ := ho.form
 obtain ⟨ov, cv, rfl⟩ : ∃ o cap, vr = .slice o l.length cap := by obtain ⟨_, o, cap, h, _⟩ := hv; exact ⟨o, cap, by rw [h, List.length_map]⟩
 have HV := Lib.hid hv.el
 have HO := Lib.hid ho
 have NO := Lib.hid no
 have HB0 := Lib.hid hb0
 have lo : (l.length : Int) <= 1000 := by omega
 clear hv ho no hb0
 refine (callsIn_wide (n := 0)).1 ?_
 refine callsIn_of_wp Tryz.func129 rfl trivial ?_ rfl
 simp only [Tryz.ntmps129, List.size_toArray, List.length_cons, List.length_nil, Nat.reduceAdd, Nat.reduceSub, Array.replicate_succ, Array.replicate_zero, List.push_toArray, List.append_toArray, List.nil_append, List.cons_append]
 gi_wp2
 gi_loopw [5, 10] (fun v5 v10 W => ∃ (k : Nat) (zs : List Int), k <= l.length /\ v10 = .int .i64 k /\ zs = ((plE (l.take k)).filter fun r => Nm.same r.owner o).map (·.type) /\ zs.length <= k /\ Below w0.heap.size w0 W /\ Row (fun g => w0.heap.size <= g) 3 1 v5 zs.length (zs.map I64) W) (fun _ v10 _ => l.length - (intOf v10).toNat)
 case atStart => exact ⟨0, [], Nat.zero_le _, rfl, rfl, Nat.le_refl _, Below.refl _ _, Row.nil _ _ _ _⟩
 case round =>
  obtain ⟨k, zs, hk, rfl, hzs, hzl, hb, hrow⟩ := hrel
  by_cases hlt : k < l.length
  ·have hlz : (k : Int) < (l.length : Int) := by omega
   obtain ⟨x, hx⟩ : ∃ x, l[k] = x := ⟨_, rfl⟩
   obtain ⟨p0, n0, q0, p1, n1, q1, p2, n2, q2, p3, n3, q3, p4, n4, q4, ex⟩ := x.cells
   obtain ⟨ga, rfl, e0, e1, e2, e3, e4, e5, e6⟩ := HV.out _ hb k hlt _ _ _ _ _ _ _ (by rw [hx]; exact ex)
   have HX := Lib.hid (x.ownerRd ex)
   have htk : l.take (k + 1) = l.take k ++ [x] := by rw [List.take_succ_eq_append_getElem hlt, hx]
   have HTK := Lib.hid htk
   have HR := Lib.hid hrow
   have HZS := Lib.hid hzs
   have HB := Lib.hid hb
   clear hrow hx htk hzs hb ex
   gi_wp2_with fail
   obtain ⟨Wa, hWa⟩ : ∃ Wa, wr.alloc (.cells #[.slice p0 n0 q0, .int .u32 (x.1.2.ttl : Int), .int .i64 x.1.2.type, .slice p1 n1 q1, .slice p2 n2 q2, .slice p3 n3 q3, .slice p4 n4 q4] 90) = Wa := ⟨_, rfl⟩
   have hba : Below wr.heap.size wr Wa := by rw [<- hWa]; exact (Below.refl _ _).alloc (Nat.le_refl _) _
   have hblk : Blk wr.heap.size #[.slice p0 n0 q0, .int .u32 (x.1.2.ttl : Int), .int .i64 x.1.2.type, .slice p1 n1 q1, .slice p2 n2 q2, .slice p3 n3 q3, .slice p4 n4 q4] 90 Wa := by rw [<- hWa]; exact Blk.new wr _ _
   rw [hWa]
   have hb2 := below5 HB.out hba
   obtain ⟨bz, hbz⟩ : ∃ bz, Nm.same x.1.2.owner o = bz := ⟨_, rfl⟩
   have HSM := Lib.hid (nSame_any _ _ x.1.2.owner o Wa (HX.out.below (below5 HB0.out hb2)) (HO.out.below hb2) x.2.2.owner NO.out)
   rw [hbz] at HSM
   have HBZ := Lib.hid hbz
   refine (callsIn_wide.2 HSM.out).mono ?_
   rintro e w8 ⟨rfl, b8⟩
   have q2 : w8.cell? ⟨wr.heap.size, 2, none⟩ = some _ := (hblk.below b8).cell 2
   have HB8 := Lib.hid (below5 HB.out (below5 hba b8))
   have HR8 := Lib.hid (HR.out.below (below5 hba b8))
   clear e0 e1 e2 e3 e4 e5 e6 hWa hba hblk hb2 hbz HSM b8
   cases bz with
   | true =>
    have hnew := GRd.new [.int .i64 x.1.2.type] rfl (by simp [Value.oneCell']) w8 3
    have HW9 : Hid (Below w0.heap.size w0 (w8.alloc (.cells #[.int .i64 x.1.2.type] 3))) := HB8.out.alloc HB8.out.size _
    have HR9 := Lib.hid (HR8.out.alloc (.cells #[.int .i64 x.1.2.type] 3))
    have HN9 := Lib.hid hnew
    clear hnew
    gi_wp2_with (gi_at_builtin; refine append_g (fun g => w0.heap.size <= g) 3 _ 1 8 info_int rfl (by decide) rfl _ _ _ Tryz.underlying55 rfl _ zs.length (zs.map fun z => [I64 z]) (by rfl) (by rw [show (zs.map fun z => [I64 z]).flatten = zs.map I64 by rw [<- flatten_one (zs.map I64), List.map_map]; rfl]; exact HR9.out) _ [[.int .i64 x.1.2.type]] (by rfl) HN9.out (by simp; omega) (by omega) (by have := HW9.out.size; show _ <= _; exact this) ?_; intro v10 w10 hrow10 hgr10)
    have hb10 := HW9.out.grown hgr10 HW9.out.size (fun g hg => HR9.out.2 g hg)
    gi_wp2_with fail
    refine ⟨⟨k + 1, zs ++ [x.1.2.type], hlt, by go_num, ?_, by simp; omega, hb10, ?_⟩, by simp [intOf]; omega⟩
    ·rw [HTK.out, plE_snoc, List.filter_append, List.filter_cons_of_pos (by exact HBZ.out), List.map_append, HZS.out]; rfl
    ·have h2 : (List.map (fun z => [I64 z]) zs).flatten = zs.map I64 := by rw [<- flatten_one (zs.map I64), List.map_map]; rfl
     rw [List.length_append, List.map_append]
     simpa [h2] using hrow10
   | false =>
    gi_wp2_with fail
    refine ⟨⟨k + 1, zs, hlt, by go_num, ?_, by omega, HB8.out, HR8.out⟩, by simp [intOf]; omega⟩
    rw [HTK.out, plE_snoc, List.filter_append, List.filter_cons_of_neg (by rw [HBZ.out]; exact Bool.false_ne_true), List.filter_nil, List.append_nil, HZS.out]
  ·have hlz : ¬ ((k : Int) < (l.length : Int)) := by omega
   obtain rfl : k = l.length := by omega
   rw [List.take_length] at hzs
   have hR : ∀ g, w0.heap.size <= g -> w0.heap.size <= g := fun _ h => h
   have HS := Lib.hid (sortInts_any u5 zs w0 wr hrow hR hb (by omega))
   have HR := Lib.hid hR
   have HZS := Lib.hid hzs
   have hzn : zs.length <= 1000 := by omega
   clear hrow hb hzs hR
   gi_wp2_with fail
   refine (callsIn_wide.2 HS.out).mono ?_
   rintro e w1 ⟨rfl, r1, b1, g1⟩
   have hsl : (zs.mergeSort fun x y => decide (x <= y)).length = zs.length := List.length_mergeSort _
   rw [<- hsl] at r1
   have HC := Lib.hid (compactInts_any u5 _ w0 w1 r1 HR.out b1 (by rw [hsl]; omega))
   clear r1 b1 g1 HS
   gi_wp2_with fail
   refine (callsIn_wide.2 HC.out).mono ?_
   rintro e w2 ⟨v2, rfl, r2, b2, g2⟩
   have hcl := compact_len (zs.mergeSort fun x y => decide (x <= y))
   have HP := Lib.hid (clipInts_any v2 _ w2 r2 (by omega))
   have HB2 := Lib.hid b2
   clear r2 b2 g2 HC hcl hsl
   gi_wp2_with fail
   refine (callsIn_wide.2 HP.out).mono ?_
   rintro e w3 ⟨v3, rfl, r3, rfl⟩
   have HR3 := Lib.hid r3
   clear r3
   gi_wp2_with fail
   go_ret
   refine ⟨_, rfl, ?_, HB2.out⟩
   have := HR3.out
   rw [HZS.out] at this
   exact this
end Go.Proofs.YtneghhbclefmoaaGreat
end
section
namespace Go.Proofs.YtneghhbclefmoaaGreat
open Go.RowKit Go.Shelf Go.Sort
set_option maxRecDepth 100000
namespace Rs
open Rc
def leads (t : Int) : Bool := t == 2 || t == 5 || t == 12 || t == 39 || t == 15
def targets (t : Int) (L : List PRec) : List (List (List UInt8)) := if leads t then L.filterMap fun r => r.names.head? else []
end Rs
theorem encD_one' {w : World} (x : El w) : ∀ u ∈ encD x, u.oneCell' = true := fun u hu => x.2.1.one u (List.mem_of_mem_drop hu)
theorem DatsRd.grd {w : World} {v : Value} {l : List (El w)} {W : World} (h : DatsRd v l W) : GRd 5 v (l.map encD) W := by
 obtain ⟨o, cap, h1, h2, h3, h4, h5⟩ := h
 refine ⟨o, cap, by rw [List.length_map]; exact h1, by rw [List.length_map]; exact h2, h3, h4, fun y hy => ?_, fun i hi c hc => ?_⟩
 ·obtain ⟨x, _, rfl⟩ := List.mem_map.1 hy
  exact ⟨encD_len x, encD_one' x⟩
 ·rw [List.length_map] at hi
  have hl : i * 5 + c < (l.flatMap encD).length := by rw [flat_len encD 5 encD_len]; omega
  obtain ⟨a, ha, e⟩ := h5 _ hl
  refine ⟨a, ha, ?_⟩
  rw [e, <- List.getElem?_eq_getElem hl, flat_get encD 5 encD_len l i c hi hc, List.getElem_map]
theorem El.data {w : World} (x : El w) : ∃ us p1 q1 p2 n2 q2 p3 n3 q3 p4 n4 q4, encD x = [.int .i64 x.1.2.type, .slice p1 us.length q1, .slice p2 n2 q2, .slice p3 n3 q3, .slice p4 n4 q4] /\ Sl (.slice p1 us.length q1) us w /\ us.length = x.1.2.names.length /\ (∀ i (h : i < us.length) (h' : i < x.1.2.names.length), Rd us[i] x.1.2.names[i] w) /\ DatRd (encD x) x.1.2 w := by
 obtain ⟨vo, ds, h0, ho, hd⟩ := x.2.1
 have he : encD x = ds := by unfold encD encE; rw [h0]; rfl
 have hd0 := hd
 obtain ⟨vn, vm, vt, vr, rfl, ⟨us, u1, u2, u3⟩, h2, h3, h4⟩ := hd
 obtain ⟨p1, q1, e1, _⟩ := u2.form
 obtain ⟨p2, q2, e2, _⟩ := h2.form
 obtain ⟨p3, q3, e3, _⟩ := h3.form
 obtain ⟨p4, q4, e4, _⟩ := Sl.form h4
 subst e1; subst e2; subst e3; subst e4
 exact ⟨us, p1, q1, p2, _, q2, p3, _, q3, p4, _, q4, he, u2, u1, u3, by rw [he]; exact hd0⟩
end Go.Proofs.YtneghhbclefmoaaGreat
end
