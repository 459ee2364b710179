/- append where the two slices' types differ by name. -/
import Derived.Test.YtikibmeopndncaaNmR
namespace Go.Proofs.Ytikibmeopndncaa
open Go.RowKit Go.Shelf
set_option maxRecDepth 100000

theorem append_types {P : Program} (w : World) (t t2 ty e e2 : TypeId) (b : Option Addr) (n c : Nat) (x : Value) (h1 : P.underlying t = some (.slice e)) (h2 : P.underlying t2 = some (.slice e2)) :
    (Builtin.append_ #[t, t2] ty #[.slice b n c, x]).run P w = (Builtin.append_ #[t, t] ty #[.slice b n c, x]).run P w := by
  simp [Builtin.append_, run_underlying h1, run_underlying h2, sizeOf, typeInfo]

section
variable {F : Fence} {n : Nat} {P : Program}
/-- APPEND, of cells that lie somewhere, to a row of the call's own. -/
theorem append_in2 (R : Nat → Prop) {ops : Array Oper} {rest : List Oper} {o : Oper} {a : Act} {w : World} {Q : Exit → Act → World → Prop}
    (hg : o.guard = none) (s x : Operand) (t t2 : TypeId) (hop : o.op = Op.call { callee := Callee.builtin Builtin.append, args := #[s, x], argTypes := #[t, t2] })
    (e e2 : TypeId) (h1' : P.underlying t2 = some (.slice e2)) (i : TypeInfo) (z : Value) (sz bytes : Nat) (h1 : P.underlying t = some (.slice e)) (h2 : P.info? e = some i) (h3 : i.zero = some z) (h4 : i.size = sz) (h5 : i.bytes = bytes) (h6 : z.cells.size = sz) (h7 : 0 < sz)
    (v : Value) (k : Nat) (xs : List Value) (hs : a.eval s = v) (hrow : Row R e sz v k xs w) (ad : Addr) (m c : Nat) (news : List Value) (hx : a.eval x = .slice (some ad) m c) (hn : news.length = m * sz)
    (hc : ∀ j u, news[j]? = some u → w.cell? (ad.add j) = some u) (h1c : ∀ u ∈ news, u.oneCell' = true) (b1 : k + m ≤ maxLen) (b2 : (k + m) * bytes ≤ 140737488355328) (hR : R w.heap.size)
    (hK : ∀ v' w', Row R e sz v' (k + m) (xs ++ news) w' → w.grownBy w' v.ownBlock → (v' = .slice none 0 0 ↔ v = .slice none 0 0 ∧ m = 0) → wpListIn F n P ops Q rest (a.put o.dst v') w') :
    wpListIn F n P ops Q (o :: rest) a w := by
  refine wpListIn_plain hg fun K hK' => ?_
  obtain ⟨v', w', hrun, r1, r2, r3, r4⟩ := run_append_own_at (P := P) (w := w) 0 t o.type e i z sz bytes h1 h2 h3 h4 h5 h6 h7 v k xs hrow.1 ad m c news hn hc h1c b1 b2 (Nat.zero_le _)
  obtain ⟨b0, c0, hv⟩ := hrow.form
  have hrun := (show (Builtin.append_ #[t, t2] o.type #[v, .slice (some ad) m c]).run P w = _ from by rw [hv]; exact append_types w t t2 o.type e e2 b0 k c0 _ h1 h1').trans hrun
  unfold Oper.wpIn
  refine ⟨?_, ?_⟩
  · simp [Oper.about, hop, resolve, Target.leads, Sem.run_pure]
  · rw [Oper.semAt_plain F _ _ (by rw [hop]; intro c hc'; cases hc')]
    simp [execOp, hop, resolve, invoke, builtin, hs, hx, hrun, Result.andThen]
    refine hK' _ _ (hK v' w' ⟨r1, fun g hg' => ?_⟩ r2 r3)
    rcases r4 with r4 | r4
    · rw [r4] at hg'; exact hrow.2 g hg'
    · rw [r4] at hg'; cases hg'; exact hR
end
section
variable {F : Fence} {n : Nat}
/-- APPEND, of texts that are read, to a row of the call's own. -/
theorem append_rd2 (R : Nat → Prop) {ops : Array Oper} {rest : List Oper} {o : Oper} {a : Act} {w : World} {Q : Exit → Act → World → Prop}
    (hg : o.guard = none) (s x : Operand) (t t2 : TypeId) (ht : Try.prog.underlying t = some (.slice 9)) (ht2 : Try.prog.underlying t2 = some (.slice 9)) (hop : o.op = Op.call { callee := Callee.builtin Builtin.append, args := #[s, x], argTypes := #[t, t2] })
    (v : Value) (k : Nat) (xs : List (List UInt8)) (hs : a.eval s = v) (hrow : Row R 9 1 v k (xs.map S) w) (u : Value) (l : List (List UInt8)) (hx : a.eval x = u) (hu : Rd u l w) (hb : k + l.length ≤ 100000) (hR : R w.heap.size)
    (hK : ∀ v' w', Row R 9 1 v' (k + l.length) ((xs ++ l).map S) w' → w.grownBy w' v.ownBlock → wpListIn F n Try.prog ops Q rest (a.put o.dst v') w') :
    wpListIn F n Try.prog ops Q (o :: rest) a w := by
  obtain ⟨i0, hi, hz0, hz1, hz2⟩ := info_parts Try.info_str
  obtain ⟨oa, cap, rfl, h1, h2, h3, h4⟩ := hu
  cases oa with
  | none =>
    obtain rfl : cap = 0 := h3 rfl
    have hl : l = [] := List.length_eq_zero_iff.1 (by omega)
    subst hl
    refine wpListIn_plain hg fun K hK' => ?_
    obtain ⟨b0, c0, hv⟩ := hrow.form
    have hrun := (show (Builtin.append_ #[t, t2] o.type #[v, .slice none 0 0]).run Try.prog w = _ from by rw [hv]; exact append_types w t t2 o.type _ _ b0 k c0 _ ht ht2).trans (run_append_owned_none (P := Try.prog) (w := w) 0 t o.type 9 i0 1 ht hi v k _ hrow.1)
    unfold Oper.wpIn
    refine ⟨?_, ?_⟩
    · simp [Oper.about, hop, resolve, Target.leads, Sem.run_pure]
    · rw [Oper.semAt_plain F _ _ (by rw [hop]; intro c hc'; cases hc')]
      simp only [List.length_nil] at hx
      simp [execOp, hop, resolve, invoke, builtin, hs, hx, hrun, Result.andThen]
      exact hK' _ _ (hK _ _ (by simpa using hrow) ⟨rfl, rfl, rfl, Nat.le_refl _, fun _ _ _ => rfl⟩)
  | some ad =>
    refine append_in2 R hg s x t t2 hop 9 9 ht2 i0 (.string ⟨#[]⟩) 1 16 ht hi hz0 hz1 hz2 rfl (by decide) v k (xs.map S) hs hrow ad l.length cap (l.map S) hx (by simp) (fun j u hj => ?_) (fun u hu => ?_) (by unfold maxLen; omega) (by omega) hR (fun v' w' hr hgr _ => hK v' w' (by rwa [List.map_append]) hgr)
    · rw [List.getElem?_map] at hj
      obtain ⟨y, hy, rfl⟩ := Option.map_eq_some_iff.1 hj
      obtain ⟨hjl, rfl⟩ := List.getElem?_eq_some_iff.1 hy
      obtain ⟨a', ha, hc⟩ := h4 j hjl
      cases ha; exact hc
    · obtain ⟨y, _, rfl⟩ := List.mem_map.1 hu
      rfl
end
end Go.Proofs.Ytikibmeopndncaa
