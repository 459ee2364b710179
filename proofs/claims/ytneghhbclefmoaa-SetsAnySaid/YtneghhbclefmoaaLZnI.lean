/- Zones: a host's addresses. -/
import Derived.Test.YtneghhbclefmoaaJGdF
section
namespace Go.Proofs.Ytneghhbclefmoaa
open Go.RowKit Go.Shelf Go.Sort
set_option maxRecDepth 100000

def Rs.datOf (c : List Rc.PRec) : List Rc.PRec := match c with
  | [] => []
  | x :: xs => (x :: xs).take (Rs.run x (x :: xs))
def Zn.glueT (L : List Rc.PRec) (h : List (List UInt8)) : Nat → List Rc.PRec
  | 0 => []
  | k + 1 => Zn.glueT L h k ++ Rs.datOf (Rs.mine L h (if k = 0 then 1 else 28))
theorem ofV.data {w : World} {c : List (El w)} {v : Value} {W : World} (h : ofV c v W) : ∃ pa pn pc t tt od n cd d, v = .agg #[.slice pa pn pc, .int .i64 t, .int .u32 tt, .slice od n cd] ∧ (d : List (El w)).length = n ∧ DatsRd (.slice od n cd) d W ∧ plE d = Rs.datOf (plE c) ∧ d.length ≤ c.length := by
  match c, h with
  | [], h => exact ⟨_, _, _, _, _, _, _, _, [], h, rfl, DatsRd.nil W, rfl, Nat.le_refl _⟩
  | x :: xs, ⟨vo, od, cd, h1, h2, h3⟩ =>
    have hl : ((x :: xs).take (Rs.run x.1.2 (plE (x :: xs)))).length = Rs.run x.1.2 (plE (x :: xs)) := by
      have := Rs.run_le x.1.2 (plE (x :: xs))
      rw [List.length_take]; simp only [plE, List.length_map] at this ⊢; omega
    obtain ⟨pa, pc, rfl, _⟩ := id h2
    refine ⟨pa, _, pc, _, _, od, _, cd, _, h1, hl, h3, ?_, by rw [List.length_take]; exact Nat.min_le_right _ _⟩
    simp [plE, Rs.datOf]
end Go.Proofs.Ytneghhbclefmoaa
end
section
namespace Go.Proofs.Ytneghhbclefmoaa
open Go.RowKit Go.Shelf Go.Sort
set_option maxRecDepth 100000

theorem sl_blk {b : Nat} {cs : List Value} {t : TypeId} {W : World} (h : Blk b cs.toArray t W) (hl : cs.length ≤ 1000) : Sl (.slice (some ⟨b, 0, none⟩) cs.length cs.length) cs W := by
  refine ⟨_, _, rfl, Nat.le_refl _, by unfold maxLen; omega, (fun h => by cases h), fun j hj => ⟨_, rfl, ?_⟩⟩
  have hadd : (⟨b, 0, none⟩ : Addr).add j = ⟨b, j, none⟩ := by unfold Addr.add; split <;> simp_all
  rw [hadd, h.cell j]
  simp [hj]
theorem rd_blk {b : Nat} (l : List (List UInt8)) {W : World} (h : Blk b (l.map S).toArray 9 W) (hl : l.length ≤ 1000) : Rd (.slice (some ⟨b, 0, none⟩) l.length l.length) l W := by
  have := sl_blk h (by simpa using hl)
  rw [List.length_map] at this
  exact sl_rd this
theorem rd_new (l : List (List UInt8)) (w : World) (hl : l.length ≤ 1000) : Rd (.slice (some ⟨w.heap.size, 0, none⟩) l.length l.length) l (w.alloc (.cells (l.map S).toArray 9)) := rd_blk l (Blk.new w _ _) hl
theorem nb_ok {l : List (List UInt8)} (h : (decide (l.length ≤ 1000) && l.all fun x => decide (x.length ≤ 1000)) = true) : NB l := by
  simp only [Bool.and_eq_true, decide_eq_true_eq, List.all_eq_true] at h; exact h
theorem recs_blk {W : World} {b : Nat} (l : List (El W)) (h : Blk b (l.flatMap encE).toArray 84 W) (hl : l.length ≤ 100) : RecsRd (.slice (some ⟨b, 0, none⟩) l.length l.length) (l.map (·.1)) W := by
  refine ⟨fun x hx => ?_, some ⟨b, 0, none⟩, l.length, by rw [List.length_map], by rw [List.length_map]; exact Nat.le_refl _, by unfold maxLen; omega, (fun h => by cases h), fun j hj => ⟨_, rfl, ?_⟩⟩
  · obtain ⟨y, _, rfl⟩ := List.mem_map.1 hx
    exact y.2.1
  · have hadd : (⟨b, 0, none⟩ : Addr).add j = ⟨b, j, none⟩ := by unfold Addr.add; split <;> simp_all
    have hj' := hj
    rw [encP_map] at hj'
    rw [hadd, h.cell j, ← List.getElem?_eq_getElem hj, encP_map]
    simp
abbrev Zn.kr : List Rc.PRec := [⟨[[111]], 0, 2, [[[110, 115], [115], [111]]], [], [], []⟩, ⟨[[83], [111]], 0, 2, [[[110, 115], [115], [111]]], [], [], []⟩, ⟨[[110, 115], [115], [111]], 0, 1, [], [], [], [1, 2, 3, 4]⟩, ⟨[[42], [119], [111]], 0, 1, [], [], [], [1, 2, 3, 4]⟩]
end Go.Proofs.Ytneghhbclefmoaa
end
section
namespace Go.Proofs.Ytneghhbclefmoaa
open Go.RowKit Go.Shelf Go.Sort
set_option maxRecDepth 100000

theorem rb_of {r : Rc.PRec} (ho : Nm.few r.owner = true) (hd : DF r) (hn : RN r) : RB r :=
  ⟨NB.few ho, ⟨by have := hd.names; omega, fun n h => NB.few (hd.name n h)⟩, ⟨by have := hd.nums; omega, hn.2⟩, by have := hd.texts; omega, hn.1⟩
theorem els {W : World} : ∀ {l : List RP}, (∀ x ∈ l, RecRd x.1 x.2 W ∧ RB x.2) → ∃ L : List (El W), L.map (·.1) = l
  | [], _ => ⟨[], rfl⟩
  | x :: l, h => by
    obtain ⟨L, hL⟩ := els (fun y hy => h y (List.mem_cons_of_mem _ hy))
    exact ⟨⟨x, h x List.mem_cons_self⟩ :: L, by rw [List.map_cons, hL]⟩
theorem els_of {W : World} {v : Value} {l : List RP} (hv : RecsRd v l W) (hf : RF l) (hn : ∀ x ∈ l, RN x.2) : ∃ L : List (El W), L.map (·.1) = l ∧ L.length ≤ 60 ∧ L.length = l.length := by
  obtain ⟨L, hL⟩ := els (W := W) (l := l) (fun x hx => ⟨hv.1 x hx, rb_of (hf.owner x hx) (hf.dat x hx) (hn x hx)⟩)
  have hl : L.length = l.length := by rw [← hL, List.length_map]
  exact ⟨L, hL, by have := hf.len; omega, hl⟩
end Go.Proofs.Ytneghhbclefmoaa
end
section
namespace Go.Proofs.Ytneghhbclefmoaa
open Go.RowKit Go.Shelf Go.Sort
set_option maxRecDepth 100000

def Tr (w : World) (e : Ending) (w' : World) : Prop := e = .returned (.bool true) ∧ Below w.heap.size w w'
end Go.Proofs.Ytneghhbclefmoaa
end
section
namespace Go.Proofs.Ytneghhbclefmoaa
open Go.RowKit Go.Shelf Go.Sort
set_option maxRecDepth 100000

theorem RecsRd.shape {v : Value} {l : List RP} {w : World} (h : RecsRd v l w) : ∃ o cap, v = .slice o l.length cap ∧ l.length ≤ cap ∧ cap ≤ 9223372036854775807 := by
  obtain ⟨_, o, cap, h, h1, h2, _⟩ := h
  unfold maxLen at h2
  exact ⟨o, cap, h, h1, by omega⟩
theorem RecsRd.set' {w : World} {o : Option Addr} {n cap : Nat} {l : List (El w)} {W : World} (h : RecsRd (.slice o n cap) (l.map (·.1)) W) {b i : Nat} (ha : ∀ a, o = some a → a.block ≠ b) (u : Value) (hb : Below w.heap.size w (W.setCell ⟨b, i, none⟩ u)) :
    RecsRd (.slice o n cap) (l.map (·.1)) (W.setCell ⟨b, i, none⟩ u) := by
  obtain ⟨_, o2, c2, e1, e2, e3, e4, e5⟩ := h
  cases e1
  refine ⟨fun x hx => ?_, o, cap, rfl, e2, e3, e4, fun j hj => ?_⟩
  · obtain ⟨y, _, rfl⟩ := List.mem_map.1 hx
    exact y.2.1.below hb
  · obtain ⟨a, hao, hcell⟩ := e5 j hj
    refine ⟨a, hao, ?_⟩
    rw [World.cell?_of_block (Below.heap_setCell _ _ _ _ (by rw [add_block]; exact ha a hao))]
    exact hcell
theorem Row.ltH {R : Nat → Prop} {e : TypeId} {sz n : Nat} {v : Value} {xs : List Value} {W : World} (h : Row R e sz v n xs W) {g : Nat} (hg : v.ownBlock = some g) : g < W.heap.size := by
  obtain ⟨⟨_, ho⟩, _⟩ := h
  rcases ho with ⟨rfl, _⟩ | ⟨g', cap, cur, rfl, _, hc, _⟩
  · simp [Value.ownBlock] at hg
  · simp only [Value.ownBlock, Option.some.injEq] at hg
    subst hg
    exact (Array.getElem?_eq_some_iff.1 hc).1
theorem Blk.grown' {b : Nat} {cs : Array Value} {t : TypeId} {W W' : World} {row : Option Nat} (h : Blk b cs t W) (hg : W.grownBy W' row) (hne : ∀ g, row = some g → g ≠ b) : Blk b cs t W' :=
  (hg.block b h.lt (fun e => hne b e.symm rfl)).trans h
section
variable {F : Fence} {n : Nat} {P : Program} {ops : Array Oper} {Q : Exit → Act → World → Prop}
theorem opH2 (i : Nat) {oi : Oper} {fuel : Nat} {listed : Array Bool} {a : Act} {w : World} {N : List Nat} {S : World → Prop} (hi : ops.toList[i]? = some oi)
    (h : ∀ K : Act → World → Prop, (∀ a' w', (i ∈ N → S w') → wpAnyH F n P ops (NoPan Q) N S fuel (listed.setIfInBounds i true) a' w' → K a' w') →
      wpListIn F n P ops (Exit.then K (NoPan Q)) [oi] a w) :
    wpOpIn F n P ops (NoPan Q) i (fun a' w' => (i ∈ N → S w') ∧ wpAnyH F n P ops (NoPan Q) N S fuel (listed.setIfInBounds i true) a' w') a w := by
  replace hi : ops[i]? = some oi := by rw [← Array.getElem?_toList]; exact hi
  have := h _ (fun a' w' h1 h2 => (⟨h1, h2⟩ : (i ∈ N → S w') ∧ wpAnyH F n P ops (NoPan Q) N S fuel (listed.setIfInBounds i true) a' w'))
  unfold wpOpIn
  simp only [wpListIn] at this
  simp only [hi]
  by_cases hw : Region.wanted oi (yielded ops a.tmps) = true
  · rw [if_pos hw] at this ⊢
    refine ⟨this.1, ?_⟩
    have h2 := this.2
    generalize (oi.semAt F.round a.eval).run P w = r at *
    cases r with
    | ok x w' =>
      cases x <;> simp only [Oper.uponIn] at h2 ⊢
      case value u => exact h2
      case skip => exact h2
      case defer d => exact h2
      case enter f args =>
        refine ⟨h2.1, CallsIn.mono h2.2 fun e w'' he => ?_⟩
        cases e with
        | returned u => exact he
        | panicked c => exact he
        | outgrown => exact letsOut_then he
      case row row args => exact ⟨h2.1, RowsIn.mono h2.2 fun u w'' he => he⟩
      case round l f tmps assign body =>
        refine ⟨h2.1, RoundIn.mono h2.2 fun e w'' he => ?_⟩
        cases e with
        | returned u => exact he
        | panicked c => exact he
        | outgrown => exact letsOut_then he
    | halt x w' => cases x <;> simp only [Oper.uponIn] at h2 ⊢ <;> exact h2
  · rw [if_neg hw] at this ⊢
    exact this
/-- either of two operations may come up -/
theorem twoH2 (i j : Nat) {oi oj : Oper} {fuel : Nat} {listed : Array Bool} {a : Act} {w : World} {N : List Nat} {S : World → Prop} (hi : ops.toList[i]? = some oi) (hj : ops.toList[j]? = some oj)
    (hr : Region.ready .any ops listed = [i, j])
    (h1 : ∀ K : Act → World → Prop, (∀ a' w', (i ∈ N → S w') → wpAnyH F n P ops (NoPan Q) N S fuel (listed.setIfInBounds i true) a' w' → K a' w') → wpListIn F n P ops (Exit.then K (NoPan Q)) [oi] a w)
    (h2 : ∀ K : Act → World → Prop, (∀ a' w', (j ∈ N → S w') → wpAnyH F n P ops (NoPan Q) N S fuel (listed.setIfInBounds j true) a' w' → K a' w') → wpListIn F n P ops (Exit.then K (NoPan Q)) [oj] a w) :
    wpAnyH F n P ops (NoPan Q) N S (fuel + 1) listed a w := by
  refine ⟨fun h0 => (by rw [hr] at h0; cases h0), fun k hk => ?_⟩
  rw [hr] at hk
  simp only [List.mem_cons, List.not_mem_nil, or_false] at hk
  rcases hk with rfl | rfl
  · exact opH2 k hi h1
  · exact opH2 k hj h2
end

end Go.Proofs.Ytneghhbclefmoaa
end
