/- Zones: made, of records that were there before; small lemmas on blocks and rows. -/
import Derived.Test.YtneghhbclefmoaaGreatJZnN
namespace Go.Proofs.YtneghhbclefmoaaGreat
open Go.RowKit Go.Shelf Go.Sort
set_option maxRecDepth 100000

theorem RecsRd.shape {v : Value} {l : List RP} {w : World} (h : RecsRd v l w) : ∃ o cap, v = .slice o l.length cap ∧ l.length ≤ cap ∧ cap ≤ 9223372036854775807 := by
  obtain ⟨_, o, cap, h, h1, h2, _⟩ := h
  unfold maxLen at h2
  exact ⟨o, cap, h, h1, by omega⟩
theorem RecsRd.set' {w : World} {o : Option Addr} {n cap : Nat} {l : List (El w)} {W : World} (h : RecsRd (.slice o n cap) (l.map (·.1)) W) {b i : Nat} (ha : ∀ a, o = some a → a.block ≠ b) (u : Value) (hb : Below w.heap.size w (W.setCell ⟨b, i, none⟩ u)) :
    RecsRd (.slice o n cap) (l.map (·.1)) (W.setCell ⟨b, i, none⟩ u) := by
  obtain ⟨_, o2, c2, e1, e2, e3, e4, e5⟩ := h
  cases e1
  refine ⟨fun x hx => ?_, o, cap, rfl, e2, e3, e4, fun j hj => ?_⟩
  · obtain ⟨y, _, rfl⟩ := List.mem_map.1 hx
    exact y.2.1.below hb
  · obtain ⟨a, hao, hcell⟩ := e5 j hj
    refine ⟨a, hao, ?_⟩
    rw [World.cell?_of_block (Below.heap_setCell _ _ _ _ (by rw [add_block]; exact ha a hao))]
    exact hcell
theorem Row.ltH {R : Nat → Prop} {e : TypeId} {sz n : Nat} {v : Value} {xs : List Value} {W : World} (h : Row R e sz v n xs W) {g : Nat} (hg : v.ownBlock = some g) : g < W.heap.size := by
  obtain ⟨⟨_, ho⟩, _⟩ := h
  rcases ho with ⟨rfl, _⟩ | ⟨g', cap, cur, rfl, _, hc, _⟩
  · simp [Value.ownBlock] at hg
  · simp only [Value.ownBlock, Option.some.injEq] at hg
    subst hg
    exact (Array.getElem?_eq_some_iff.1 hc).1
theorem Blk.grown' {b : Nat} {cs : Array Value} {t : TypeId} {W W' : World} {row : Option Nat} (h : Blk b cs t W) (hg : W.grownBy W' row) (hne : ∀ g, row = some g → g ≠ b) : Blk b cs t W' :=
  (hg.block b h.lt (fun e => hne b e.symm rfl)).trans h
section
variable {F : Fence} {n : Nat} {P : Program} {ops : Array Oper} {Q : Exit → Act → World → Prop}
theorem opH2 (i : Nat) {oi : Oper} {fuel : Nat} {listed : Array Bool} {a : Act} {w : World} {N : List Nat} {S : World → Prop} (hi : ops.toList[i]? = some oi)
    (h : ∀ K : Act → World → Prop, (∀ a' w', (i ∈ N → S w') → wpAnyH F n P ops (NoPan Q) N S fuel (listed.setIfInBounds i true) a' w' → K a' w') →
      wpListIn F n P ops (Exit.then K (NoPan Q)) [oi] a w) :
    wpOpIn F n P ops (NoPan Q) i (fun a' w' => (i ∈ N → S w') ∧ wpAnyH F n P ops (NoPan Q) N S fuel (listed.setIfInBounds i true) a' w') a w := by
  replace hi : ops[i]? = some oi := by rw [← Array.getElem?_toList]; exact hi
  have := h _ (fun a' w' h1 h2 => (⟨h1, h2⟩ : (i ∈ N → S w') ∧ wpAnyH F n P ops (NoPan Q) N S fuel (listed.setIfInBounds i true) a' w'))
  unfold wpOpIn
  simp only [wpListIn] at this
  simp only [hi]
  by_cases hw : Region.wanted oi (yielded ops a.tmps) = true
  · rw [if_pos hw] at this ⊢
    refine ⟨this.1, ?_⟩
    have h2 := this.2
    generalize (oi.semAt F.round a.eval).run P w = r at *
    cases r with
    | ok x w' =>
      cases x <;> simp only [Oper.uponIn] at h2 ⊢
      case value u => exact h2
      case skip => exact h2
      case defer d => exact h2
      case enter f args =>
        refine ⟨h2.1, CallsIn.mono h2.2 fun e w'' he => ?_⟩
        cases e with
        | returned u => exact he
        | panicked c => exact he
        | outgrown => exact letsOut_then he
      case row row args => exact ⟨h2.1, RowsIn.mono h2.2 fun u w'' he => he⟩
      case round l f tmps assign body =>
        refine ⟨h2.1, RoundIn.mono h2.2 fun e w'' he => ?_⟩
        cases e with
        | returned u => exact he
        | panicked c => exact he
        | outgrown => exact letsOut_then he
    | halt x w' => cases x <;> simp only [Oper.uponIn] at h2 ⊢ <;> exact h2
  · rw [if_neg hw] at this ⊢
    exact this
/-- either of two operations may come up -/
theorem twoH2 (i j : Nat) {oi oj : Oper} {fuel : Nat} {listed : Array Bool} {a : Act} {w : World} {N : List Nat} {S : World → Prop} (hi : ops.toList[i]? = some oi) (hj : ops.toList[j]? = some oj)
    (hr : Region.ready .any ops listed = [i, j])
    (h1 : ∀ K : Act → World → Prop, (∀ a' w', (i ∈ N → S w') → wpAnyH F n P ops (NoPan Q) N S fuel (listed.setIfInBounds i true) a' w' → K a' w') → wpListIn F n P ops (Exit.then K (NoPan Q)) [oi] a w)
    (h2 : ∀ K : Act → World → Prop, (∀ a' w', (j ∈ N → S w') → wpAnyH F n P ops (NoPan Q) N S fuel (listed.setIfInBounds j true) a' w' → K a' w') → wpListIn F n P ops (Exit.then K (NoPan Q)) [oj] a w) :
    wpAnyH F n P ops (NoPan Q) N S (fuel + 1) listed a w := by
  refine ⟨fun h0 => (by rw [hr] at h0; cases h0), fun k hk => ?_⟩
  rw [hr] at hk
  simp only [List.mem_cons, List.not_mem_nil, or_false] at hk
  rcases hk with rfl | rfl
  · exact opH2 k hi h1
  · exact opH2 k hj h2
end

set_option maxHeartbeats 1000000 in
theorem zNew2_any {w w0 : World} (hb : Below w.heap.size w w0) (oo : Option Addr) (on oc : Nat) (v : Value) (l : List (El w)) (hv : RecsRd v (l.map (·.1)) w0) (hn : l.length ≤ 1000) :
    Calls Tryz.prog 12 #[.slice oo on oc, v] w0
      fun e w' => ∃ o' c' l', e = .returned (.agg #[.slice oo on oc, .slice o' (l' : List (El w)).length c']) ∧ (∀ a, o' = some a → w0.heap.size ≤ a.block) ∧ RecsRd (.slice o' l'.length c') (l'.map (·.1)) w' ∧ plE l' = Rc.canon (plE l) ∧ l'.length ≤ l.length ∧ Below w0.heap.size w0 w' := by
  have hb0 : Below w0.heap.size w0 (w0.alloc (.cells #[.slice none 0 0, .slice none 0 0] 29)) := (Below.refl _ _).alloc (Nat.le_refl _) _
  have hbb := below5 hb hb0
  have HC := Lib.hid (canon_any v (l.map (El.up hbb)) (by rw [up_fst]; exact hv.kept hb0) (by simpa using hn))
  have HP := Lib.hid (up_pl hbb l)
  clear hv hn
  have HBB := Lib.hid hb
  go_enter Tryz.func12, Tryz.ntmps12
  go_wp2_with fail
  refine HC.out.mono ?_
  rintro e w1 ⟨v', l1, rfl, r1, p1, n1, b1, fr1, el1⟩
  obtain ⟨l', d1, d2, d3⟩ := down_list (w := w) l1 (fun x hx => el1 x hx w (fun y hy => by
    obtain ⟨z, _, rfl⟩ := List.mem_map.1 hy
    exact z.2.1))
  obtain ⟨o', c', rfl⟩ : ∃ o c, v' = .slice o l1.length c := by obtain ⟨_, o, c, h, _⟩ := r1; exact ⟨o, c, by rw [h, List.length_map]⟩
  have hk : ∀ c, w1.cell? ⟨w0.heap.size, c, none⟩ = (w0.alloc (.cells #[.slice none 0 0, .slice none 0 0] 29)).cell? ⟨w0.heap.size, c, none⟩ := fun c => b1.cell (p := ⟨w0.heap.size, c, none⟩) (by simp)
  have hz : ∀ c, w1.frozen? ⟨w0.heap.size, c, none⟩ = (w0.alloc (.cells #[.slice none 0 0, .slice none 0 0] 29)).frozen? ⟨w0.heap.size, c, none⟩ := fun c => World.frozen?_of_block (b1.block w0.heap.size (by simp))
  have k0 := hk 0
  have k1 := hk 1
  have z0 := hz 0
  have z1 := hz 1
  simp at k0 k1 z0 z1
  have hb1 : Below w0.heap.size w0 w1 := hb0.trans (b1.mono (by simp))
  have hb2 : ∀ u1 u2, Below w0.heap.size w0 ((w1.setCell ⟨w0.heap.size, 0, none⟩ u1).setCell ⟨w0.heap.size, 1, none⟩ u2) := fun u1 u2 => (hb1.setCell (Nat.le_refl _) _).setCell (Nat.le_refl _) _
  have hr : ∀ u1 u2, RecsRd (.slice o' l1.length c') (l'.map (·.1)) ((w1.setCell ⟨w0.heap.size, 0, none⟩ u1).setCell ⟨w0.heap.size, 1, none⟩ u2) := fun u1 u2 => by
    obtain ⟨_, o2, c2, e1, e2, e3, e4, e5⟩ := r1
    rw [List.length_map] at e1 e2
    cases e1
    refine ⟨fun x hx => ?_, o', c', by rw [d1, List.length_map], by rw [d1, List.length_map]; exact e2, e3, e4, fun j hj => ?_⟩
    · obtain ⟨y, _, rfl⟩ := List.mem_map.1 hx
      exact y.2.1.below (below5 hb (hb2 u1 u2))
    · simp only [d1] at hj ⊢
      obtain ⟨a, ha, hcell⟩ := e5 j hj
      refine ⟨a, ha, ?_⟩
      have hbl := fr1 a.block (by rw [ha]; rfl)
      have hne : (a.add j).block ≠ w0.heap.size := by
        have : (a.add j).block = a.block := by unfold Addr.add; split <;> rfl
        rw [this]; simp at hbl; omega
      rw [World.cell?_of_block (Below.heap_setCell _ _ _ _ hne), World.cell?_of_block (Below.heap_setCell _ _ _ _ hne)]
      exact hcell
  have q1 : ∀ u1 u2, ((w1.setCell ⟨w0.heap.size, 0, none⟩ u1).setCell ⟨w0.heap.size, 1, none⟩ u2).cell? ⟨w0.heap.size, 1, none⟩ = some u2 := fun u1 u2 => World.cell?_setCell_same _ _ _ (by rw [World.cell?_setCell_other _ _ _ _ (by simp)]; exact k1)
  have q0 : ∀ u1 u2, ((w1.setCell ⟨w0.heap.size, 0, none⟩ u1).setCell ⟨w0.heap.size, 1, none⟩ u2).cell? ⟨w0.heap.size, 0, none⟩ = some u1 := fun u1 u2 => by rw [World.cell?_setCell_other _ _ _ _ (by simp)]; exact World.cell?_setCell_same _ _ _ k0
  have hfr : ∀ a, o' = some a → w0.heap.size ≤ a.block := fun a ha => by
    have := fr1 a.block (by rw [ha]; rfl)
    simp at this; omega
  have HF := Lib.hid hfr
  have HD3 := Lib.hid d3
  have Q := Lib.hid (And.intro q0 q1)
  have HH := Lib.hid (And.intro hr hb2)
  have HQ : Hid (plE l' = Rc.canon (plE l) ∧ l'.length ≤ l.length) := ⟨by rw [d2, p1, HP.out], by rw [d3]; simpa using n1⟩
  clear hfr r1 p1 n1 b1 hk hz fr1 el1 hr hb2 d1 d2 d3 q0 q1
  go_wp2_with fail
  have q0 := Q.out.1
  have q1 := Q.out.2
  refine bodyPost_ret (by simp [results, Tryz.results12, go_sem, q0, q1]; try rfl) rfl ?_
  exact ⟨o', c', l', by rw [HD3.out], HF.out, by rw [HD3.out]; exact HH.out.1 _ _, HQ.out.1, HQ.out.2, HH.out.2 _ _⟩
end Go.Proofs.YtneghhbclefmoaaGreat
