/- Zones: a name of any size, with a label ahead; plain laws of what does not exist. -/
import Derived.Test.YtneghhbclefmoaaJZnN
import Derived.SizedLaws
import Derived.ChangeArms
namespace Go.Proofs.Ytneghhbclefmoaa
open Go.RowKit Go.Shelf Go.Sort Go.ChangeShapes Go.WideShapes
set_option maxRecDepth 100000

section
variable {F : Fence} {n : Nat}
/-- APPEND, of texts that are read, however many, to a row of the call's own. -/
theorem append_big (R : Nat → Prop) {ops : Array Oper} {rest : List Oper} {o : Oper} {a : Act} {w : World} {Q : Exit → Act → World → Prop}
    (hg : o.guard = none) (s x : Operand) (t : TypeId) (ht : Try.prog.underlying t = some (.slice 9)) (hop : o.op = Op.call { callee := Callee.builtin Builtin.append, args := #[s, x], argTypes := #[t, t] })
    (v : Value) (k : Nat) (xs : List (List UInt8)) (hs : a.eval s = v) (hrow : Row R 9 1 v k (xs.map S) w) (u : Value) (l : List (List UInt8)) (hx : a.eval x = u) (hu : Rd u l w) (hb : (k + l.length) * 16 ≤ 140737488355328) (hR : R w.heap.size)
    (hK : ∀ v' w', Row R 9 1 v' (k + l.length) ((xs ++ l).map S) w' → w.grownBy w' v.ownBlock → wpListIn F n Try.prog ops Q rest (a.put o.dst v') w') :
    wpListIn F n Try.prog ops Q (o :: rest) a w := by
  obtain ⟨i0, hi, hz0, hz1, hz2⟩ := info_parts Try.info_str
  obtain ⟨oa, cap, rfl, h1, h2, h3, h4⟩ := hu
  cases oa with
  | none =>
    obtain rfl : cap = 0 := h3 rfl
    have hl : l = [] := List.length_eq_zero_iff.1 (by omega)
    subst hl
    refine wpListIn_plain hg fun K hK' => ?_
    have hrun := run_append_owned_none (P := Try.prog) (w := w) 0 t o.type 9 i0 1 ht hi v k _ hrow.1
    unfold Oper.wpIn
    refine ⟨?_, ?_⟩
    · simp [Oper.about, hop, resolve, Target.leads, Sem.run_pure]
    · rw [Oper.semAt_plain F _ _ (by rw [hop]; intro c hc'; cases hc')]
      simp only [List.length_nil] at hx
      simp [execOp, hop, resolve, invoke, builtin, hs, hx, hrun, Result.andThen]
      exact hK' _ _ (hK _ _ (by simpa using hrow) ⟨rfl, rfl, rfl, Nat.le_refl _, fun _ _ _ => rfl⟩)
  | some ad =>
    refine append_in R hg s x t hop 9 i0 (.string ⟨#[]⟩) 1 16 ht hi hz0 hz1 hz2 rfl (by decide) v k (xs.map S) hs hrow ad l.length cap (l.map S) hx (by simp) (fun j u hj => ?_) (fun u hu => ?_) (by unfold maxLen; omega) (by omega) hR (fun v' w' hr hgr _ => hK v' w' (by rwa [List.map_append]) hgr)
    · rw [List.getElem?_map] at hj
      obtain ⟨y, hy, rfl⟩ := Option.map_eq_some_iff.1 hj
      obtain ⟨hjl, rfl⟩ := List.getElem?_eq_some_iff.1 hy
      obtain ⟨a', ha, hc⟩ := h4 j hjl
      cases ha; exact hc
    · obtain ⟨y, _, rfl⟩ := List.mem_map.1 hu
      rfl
end
set_option maxHeartbeats 1000000 in
theorem nChild_big (x : List UInt8) (v : Value) (n : List (List UInt8)) (w : World) (hv : Rd v n w) (hn : n.length * 16 ≤ reachBytes) :
    Calls Try.prog 19 #[S x, v] w (RdOf (x :: n) w) := by
  have hn1 : (1 + n.length) * 16 ≤ 140737488355328 := by unfold reachBytes at hn; omega
  clear hn
  refine (callsIn_wide (n := 0)).1 ?_
  refine callsIn_of_wp Try.func19 rfl trivial ?_ rfl
  simp only [Try.ntmps19, List.size_toArray, List.length_cons, List.length_nil, Nat.reduceAdd, Nat.reduceSub, Array.replicate_succ, Array.replicate_zero, List.push_toArray, List.append_toArray, List.nil_append, List.cons_append]
  gi_wp2_with (gi_at_builtin; refine append_big (Own w) rfl _ _ _ Try.underlying23 rfl _ 1 [x] (by rfl) (row_one x w) _ n (by rfl) (hv.kept fun p hp => (World.cell?_of_block (Below.heap_alloc _ _ _ (by omega)))) hn1 (by simp) ?_; intro v' w' hrow hgr)
  rw [show 1 + n.length = (x :: n).length by simp; omega] at hrow
  go_ret
  exact ⟨_, rfl, Rd.of_row hrow, ((Below.refl _ _).alloc (Nat.le_refl _) _).grown hgr (by simp) (fun g hg => by cases hg; exact Nat.le_refl _)⟩
/-- what a name among the arguments weighs -/
theorem name_weight {H : Type} {enc : TypeId × Value → H} {W : World} {base : Nat} {sp : Nat → Bool} {held : Bool} {v : Value} {d : DataW H} {ps : List MemPlace} {l : List (List UInt8)} {ts : List TypeId} {ds : List (DataW H)} {j : Nat}
    (hd : DataW.Trod enc Try.prog W base sp held 23 v d ps) (hr : Rd v l W) (hsz : (DataW.weightsEach Try.prog ts ds).all (· ≤ reachBytes) = true) (ht : ts[j]? = some 23) (hj : ds[j]? = some d) : l.length * 16 ≤ reachBytes := by
  obtain ⟨o, cap, rfl, _⟩ := hr
  obtain ⟨fuel, hf⟩ := hd
  rcases DataW.trod_slice Try.underlying23 hf with ⟨hcs, hx⟩ | ⟨a, len, cap', elems, rest, n, _, hcs, hx, _, hl, hm, hlen, _⟩
  · simp [Value.cells] at hcs
    rw [hcs.2.1]; simp
  · simp [Value.cells] at hcs
    have hd' : d = .slice (elems.map (·.1)) (rest.map (·.1)) := congrArg Prod.fst hx
    subst hd'
    have := sized_slice hsz ht hj Try.underlying23
    rw [show Try.prog.bytesOf 9 = 16 by kernel_rfl] at this
    simp only [List.length_map] at this
    have e : l.length = elems.length := by omega
    rw [e]; omega
namespace Zn
open Rc
theorem isSrc_up {o n : Nam} {L : List PRec} (x : List UInt8) (hu : Nm.under n o = true) (hn : exi o L n = false) : isSrc o L (x :: n) = isSrc o L n := by
  unfold isSrc star; rw [encl_up x hu hn]
theorem src_up {o n : Nam} {L : List PRec} (x : List UInt8) (hu : Nm.under n o = true) (hn : exi o L n = false) : src o L (x :: n) = src o L n := by
  unfold src star; rw [isSrc_up x hu hn, encl_up x hu hn]
end Zn
end Go.Proofs.Ytneghhbclefmoaa
