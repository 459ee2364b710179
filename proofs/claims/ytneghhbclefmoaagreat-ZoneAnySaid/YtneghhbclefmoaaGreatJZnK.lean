/- Zones: the laws' own 'known'. -/
import Derived.Test.YtneghhbclefmoaaGreatJZnI
namespace Go.Proofs.YtneghhbclefmoaaGreat
open Go.RowKit Go.Shelf Go.Sort
set_option maxRecDepth 100000

theorem sl_blk {b : Nat} {cs : List Value} {t : TypeId} {W : World} (h : Blk b cs.toArray t W) (hl : cs.length ≤ 1000) : Sl (.slice (some ⟨b, 0, none⟩) cs.length cs.length) cs W := by
  refine ⟨_, _, rfl, Nat.le_refl _, by unfold maxLen; omega, (fun h => by cases h), fun j hj => ⟨_, rfl, ?_⟩⟩
  have hadd : (⟨b, 0, none⟩ : Addr).add j = ⟨b, j, none⟩ := by unfold Addr.add; split <;> simp_all
  rw [hadd, h.cell j]
  simp [hj]
theorem rd_blk {b : Nat} (l : List (List UInt8)) {W : World} (h : Blk b (l.map S).toArray 9 W) (hl : l.length ≤ 1000) : Rd (.slice (some ⟨b, 0, none⟩) l.length l.length) l W := by
  have := sl_blk h (by simpa using hl)
  rw [List.length_map] at this
  exact sl_rd this
theorem rd_new (l : List (List UInt8)) (w : World) (hl : l.length ≤ 1000) : Rd (.slice (some ⟨w.heap.size, 0, none⟩) l.length l.length) l (w.alloc (.cells (l.map S).toArray 9)) := rd_blk l (Blk.new w _ _) hl
theorem nb_ok {l : List (List UInt8)} (h : (decide (l.length ≤ 1000) && l.all fun x => decide (x.length ≤ 1000)) = true) : NB l := by
  simp only [Bool.and_eq_true, decide_eq_true_eq, List.all_eq_true] at h; exact h
theorem recs_blk {W : World} {b : Nat} (l : List (El W)) (h : Blk b (l.flatMap encE).toArray 90 W) (hl : l.length ≤ 100) : RecsRd (.slice (some ⟨b, 0, none⟩) l.length l.length) (l.map (·.1)) W := by
  refine ⟨fun x hx => ?_, some ⟨b, 0, none⟩, l.length, by rw [List.length_map], by rw [List.length_map]; exact Nat.le_refl _, by unfold maxLen; omega, (fun h => by cases h), fun j hj => ⟨_, rfl, ?_⟩⟩
  · obtain ⟨y, _, rfl⟩ := List.mem_map.1 hx
    exact y.2.1
  · have hadd : (⟨b, 0, none⟩ : Addr).add j = ⟨b, j, none⟩ := by unfold Addr.add; split <;> simp_all
    have hj' := hj
    rw [encP_map] at hj'
    rw [hadd, h.cell j, ← List.getElem?_eq_getElem hj, encP_map]
    simp
abbrev Zn.kr : List Rc.PRec := [⟨[[111]], 0, 2, [[[110, 115], [115], [111]]], [], [], []⟩, ⟨[[83], [111]], 0, 2, [[[110, 115], [115], [111]]], [], [], []⟩, ⟨[[110, 115], [115], [111]], 0, 1, [], [], [], [1, 2, 3, 4]⟩, ⟨[[42], [119], [111]], 0, 1, [], [], [], [1, 2, 3, 4]⟩]
set_option maxHeartbeats 8000000 in
theorem known12_any (w : World) : Calls Tryz.prog 9 #[] w (Gives (.bool true) w) := by
  obtain ⟨W1, hW1⟩ : ∃ W, w.alloc (.cells #[S [111]] 9) = W := ⟨_, rfl⟩
  have bW1 : Below w.heap.size w W1 := by rw [← hW1]; exact (Below.refl _ _).alloc (Nat.le_refl _) _
  have sW1 : W1.heap.size = w.heap.size + 1 := by rw [← hW1, World.size_alloc]
  have k0 : Blk (w.heap.size) #[S [111]] 9 W1 := by have := Blk.new w #[S [111]] 9; rw [hW1] at this; exact this
  obtain ⟨W2, hW2⟩ : ∃ W, W1.alloc (.cells #[S [110, 115], S [115], S [111]] 9) = W := ⟨_, rfl⟩
  have bW2 : Below W1.heap.size W1 W2 := by rw [← hW2]; exact (Below.refl _ _).alloc (Nat.le_refl _) _
  have sW2 : W2.heap.size = w.heap.size + 2 := by rw [← hW2, World.size_alloc]; rw [sW1]
  have k1 : Blk (w.heap.size + 1) #[S [110, 115], S [115], S [111]] 9 W2 := by have := Blk.new W1 #[S [110, 115], S [115], S [111]] 9; rw [hW2] at this; rw [sW1] at this; exact this
  obtain ⟨W3, hW3⟩ : ∃ W, W2.alloc (.cells #[.slice (some ⟨w.heap.size + 1, 0, none⟩) 3 3] 23) = W := ⟨_, rfl⟩
  have bW3 : Below W2.heap.size W2 W3 := by rw [← hW3]; exact (Below.refl _ _).alloc (Nat.le_refl _) _
  have sW3 : W3.heap.size = w.heap.size + 3 := by rw [← hW3, World.size_alloc]; rw [sW2]
  have k2 : Blk (w.heap.size + 2) #[.slice (some ⟨w.heap.size + 1, 0, none⟩) 3 3] 23 W3 := by have := Blk.new W2 #[.slice (some ⟨w.heap.size + 1, 0, none⟩) 3 3] 23; rw [hW3] at this; rw [sW2] at this; exact this
  obtain ⟨W5z, hW5z⟩ : ∃ W, W3.alloc (.cells #[.int .i64 0, .slice none 0 0, .slice none 0 0, .slice none 0 0, .slice none 0 0] 88) = W := ⟨_, rfl⟩
  have k3z : Blk (w.heap.size + 3) #[.int .i64 0, .slice none 0 0, .slice none 0 0, .slice none 0 0, .slice none 0 0] 88 W5z := by have := Blk.new W3 #[.int .i64 0, .slice none 0 0, .slice none 0 0, .slice none 0 0, .slice none 0 0] 88; rw [hW5z, sW3] at this; exact this
  obtain ⟨W5, hW5⟩ : ∃ W, (((((W5z.setCell ⟨w.heap.size + 3, 0, none⟩ (.int .i64 2)).setCell ⟨w.heap.size + 3, 1, none⟩ (.slice (some ⟨w.heap.size + 2, 0, none⟩) 1 1)).setCell ⟨w.heap.size + 3, 2, none⟩ (.slice none 0 0)).setCell ⟨w.heap.size + 3, 3, none⟩ (.slice none 0 0)).setCell ⟨w.heap.size + 3, 4, none⟩ (.slice none 0 0)) = W := ⟨_, rfl⟩
  have bW5 : Below W3.heap.size W3 W5 := by rw [← hW5, ← hW5z]; exact (((((((Below.refl _ _).alloc (Nat.le_refl _) _).setCell (p := ⟨w.heap.size + 3, 0, none⟩) (by simp [sW3]) _).setCell (p := ⟨w.heap.size + 3, 1, none⟩) (by simp [sW3]) _).setCell (p := ⟨w.heap.size + 3, 2, none⟩) (by simp [sW3]) _).setCell (p := ⟨w.heap.size + 3, 3, none⟩) (by simp [sW3]) _).setCell (p := ⟨w.heap.size + 3, 4, none⟩) (by simp [sW3]) _)
  have sW5 : W5.heap.size = w.heap.size + 4 := by rw [← hW5, ← hW5z]; simp [World.setCell, sW3]
  have k3 : Blk (w.heap.size + 3) #[.int .i64 2, .slice (some ⟨w.heap.size + 2, 0, none⟩) 1 1, .slice none 0 0, .slice none 0 0, .slice none 0 0] 88 W5 := by rw [← hW5]; exact (((((k3z.setAt 0 _).setAt 1 _).setAt 2 _).setAt 3 _).setAt 4 _)
  have z30 : W5z.cell? ⟨w.heap.size + 3, 0, none⟩ = some _ := k3z.cell 0
  have y30 := k3z.frozen 0
  have x30 : W5.cell? ⟨w.heap.size + 3, 0, none⟩ = some _ := k3.cell 0
  have z31 : W5z.cell? ⟨w.heap.size + 3, 1, none⟩ = some _ := k3z.cell 1
  have y31 := k3z.frozen 1
  have x31 : W5.cell? ⟨w.heap.size + 3, 1, none⟩ = some _ := k3.cell 1
  have z32 : W5z.cell? ⟨w.heap.size + 3, 2, none⟩ = some _ := k3z.cell 2
  have y32 := k3z.frozen 2
  have x32 : W5.cell? ⟨w.heap.size + 3, 2, none⟩ = some _ := k3.cell 2
  have z33 : W5z.cell? ⟨w.heap.size + 3, 3, none⟩ = some _ := k3z.cell 3
  have y33 := k3z.frozen 3
  have x33 : W5.cell? ⟨w.heap.size + 3, 3, none⟩ = some _ := k3.cell 3
  have z34 : W5z.cell? ⟨w.heap.size + 3, 4, none⟩ = some _ := k3z.cell 4
  have y34 := k3z.frozen 4
  have x34 : W5.cell? ⟨w.heap.size + 3, 4, none⟩ = some _ := k3.cell 4
  obtain ⟨W6, hW6⟩ : ∃ W, W5.alloc (.cells #[.int .u8 1, .int .u8 2, .int .u8 3, .int .u8 4] 5) = W := ⟨_, rfl⟩
  have bW6 : Below W5.heap.size W5 W6 := by rw [← hW6]; exact (Below.refl _ _).alloc (Nat.le_refl _) _
  have sW6 : W6.heap.size = w.heap.size + 5 := by rw [← hW6, World.size_alloc]; rw [sW5]
  have k4 : Blk (w.heap.size + 4) #[.int .u8 1, .int .u8 2, .int .u8 3, .int .u8 4] 5 W6 := by have := Blk.new W5 #[.int .u8 1, .int .u8 2, .int .u8 3, .int .u8 4] 5; rw [hW6] at this; rw [sW5] at this; exact this
  obtain ⟨W8z, hW8z⟩ : ∃ W, W6.alloc (.cells #[.int .i64 0, .slice none 0 0, .slice none 0 0, .slice none 0 0, .slice none 0 0] 88) = W := ⟨_, rfl⟩
  have k5z : Blk (w.heap.size + 5) #[.int .i64 0, .slice none 0 0, .slice none 0 0, .slice none 0 0, .slice none 0 0] 88 W8z := by have := Blk.new W6 #[.int .i64 0, .slice none 0 0, .slice none 0 0, .slice none 0 0, .slice none 0 0] 88; rw [hW8z, sW6] at this; exact this
  obtain ⟨W8, hW8⟩ : ∃ W, (((((W8z.setCell ⟨w.heap.size + 5, 0, none⟩ (.int .i64 1)).setCell ⟨w.heap.size + 5, 1, none⟩ (.slice none 0 0)).setCell ⟨w.heap.size + 5, 2, none⟩ (.slice none 0 0)).setCell ⟨w.heap.size + 5, 3, none⟩ (.slice none 0 0)).setCell ⟨w.heap.size + 5, 4, none⟩ (.slice (some ⟨w.heap.size + 4, 0, none⟩) 4 4)) = W := ⟨_, rfl⟩
  have bW8 : Below W6.heap.size W6 W8 := by rw [← hW8, ← hW8z]; exact (((((((Below.refl _ _).alloc (Nat.le_refl _) _).setCell (p := ⟨w.heap.size + 5, 0, none⟩) (by simp [sW6]) _).setCell (p := ⟨w.heap.size + 5, 1, none⟩) (by simp [sW6]) _).setCell (p := ⟨w.heap.size + 5, 2, none⟩) (by simp [sW6]) _).setCell (p := ⟨w.heap.size + 5, 3, none⟩) (by simp [sW6]) _).setCell (p := ⟨w.heap.size + 5, 4, none⟩) (by simp [sW6]) _)
  have sW8 : W8.heap.size = w.heap.size + 6 := by rw [← hW8, ← hW8z]; simp [World.setCell, sW6]
  have k5 : Blk (w.heap.size + 5) #[.int .i64 1, .slice none 0 0, .slice none 0 0, .slice none 0 0, .slice (some ⟨w.heap.size + 4, 0, none⟩) 4 4] 88 W8 := by rw [← hW8]; exact (((((k5z.setAt 0 _).setAt 1 _).setAt 2 _).setAt 3 _).setAt 4 _)
  have z50 : W8z.cell? ⟨w.heap.size + 5, 0, none⟩ = some _ := k5z.cell 0
  have y50 := k5z.frozen 0
  have x50 : W8.cell? ⟨w.heap.size + 5, 0, none⟩ = some _ := k5.cell 0
  have z51 : W8z.cell? ⟨w.heap.size + 5, 1, none⟩ = some _ := k5z.cell 1
  have y51 := k5z.frozen 1
  have x51 : W8.cell? ⟨w.heap.size + 5, 1, none⟩ = some _ := k5.cell 1
  have z52 : W8z.cell? ⟨w.heap.size + 5, 2, none⟩ = some _ := k5z.cell 2
  have y52 := k5z.frozen 2
  have x52 : W8.cell? ⟨w.heap.size + 5, 2, none⟩ = some _ := k5.cell 2
  have z53 : W8z.cell? ⟨w.heap.size + 5, 3, none⟩ = some _ := k5z.cell 3
  have y53 := k5z.frozen 3
  have x53 : W8.cell? ⟨w.heap.size + 5, 3, none⟩ = some _ := k5.cell 3
  have z54 : W8z.cell? ⟨w.heap.size + 5, 4, none⟩ = some _ := k5z.cell 4
  have y54 := k5z.frozen 4
  have x54 : W8.cell? ⟨w.heap.size + 5, 4, none⟩ = some _ := k5.cell 4
  obtain ⟨W9, hW9⟩ : ∃ W, W8.alloc (.cells #[S [83], S [111]] 9) = W := ⟨_, rfl⟩
  have bW9 : Below W8.heap.size W8 W9 := by rw [← hW9]; exact (Below.refl _ _).alloc (Nat.le_refl _) _
  have sW9 : W9.heap.size = w.heap.size + 7 := by rw [← hW9, World.size_alloc]; rw [sW8]
  have k6 : Blk (w.heap.size + 6) #[S [83], S [111]] 9 W9 := by have := Blk.new W8 #[S [83], S [111]] 9; rw [hW9] at this; rw [sW8] at this; exact this
  obtain ⟨W10, hW10⟩ : ∃ W, W9.alloc (.cells #[S [110, 115], S [115], S [111]] 9) = W := ⟨_, rfl⟩
  have bW10 : Below W9.heap.size W9 W10 := by rw [← hW10]; exact (Below.refl _ _).alloc (Nat.le_refl _) _
  have sW10 : W10.heap.size = w.heap.size + 8 := by rw [← hW10, World.size_alloc]; rw [sW9]
  have k7 : Blk (w.heap.size + 7) #[S [110, 115], S [115], S [111]] 9 W10 := by have := Blk.new W9 #[S [110, 115], S [115], S [111]] 9; rw [hW10] at this; rw [sW9] at this; exact this
  obtain ⟨W11, hW11⟩ : ∃ W, W10.alloc (.cells #[S [42], S [119], S [111]] 9) = W := ⟨_, rfl⟩
  have bW11 : Below W10.heap.size W10 W11 := by rw [← hW11]; exact (Below.refl _ _).alloc (Nat.le_refl _) _
  have sW11 : W11.heap.size = w.heap.size + 9 := by rw [← hW11, World.size_alloc]; rw [sW10]
  have k8 : Blk (w.heap.size + 8) #[S [42], S [119], S [111]] 9 W11 := by have := Blk.new W10 #[S [42], S [119], S [111]] 9; rw [hW11] at this; rw [sW10] at this; exact this
  obtain ⟨W12, hW12⟩ : ∃ W, W11.alloc (.cells #[.slice (some ⟨w.heap.size, 0, none⟩) 1 1, .int .u32 0, .int .i64 2, .slice (some ⟨w.heap.size + 2, 0, none⟩) 1 1, .slice none 0 0, .slice none 0 0, .slice none 0 0, .slice (some ⟨w.heap.size + 6, 0, none⟩) 2 2, .int .u32 0, .int .i64 2, .slice (some ⟨w.heap.size + 2, 0, none⟩) 1 1, .slice none 0 0, .slice none 0 0, .slice none 0 0, .slice (some ⟨w.heap.size + 7, 0, none⟩) 3 3, .int .u32 0, .int .i64 1, .slice none 0 0, .slice none 0 0, .slice none 0 0, .slice (some ⟨w.heap.size + 4, 0, none⟩) 4 4, .slice (some ⟨w.heap.size + 8, 0, none⟩) 3 3, .int .u32 0, .int .i64 1, .slice none 0 0, .slice none 0 0, .slice none 0 0, .slice (some ⟨w.heap.size + 4, 0, none⟩) 4 4] 90) = W := ⟨_, rfl⟩
  have bW12 : Below W11.heap.size W11 W12 := by rw [← hW12]; exact (Below.refl _ _).alloc (Nat.le_refl _) _
  have sW12 : W12.heap.size = w.heap.size + 10 := by rw [← hW12, World.size_alloc]; rw [sW11]
  have k9 : Blk (w.heap.size + 9) #[.slice (some ⟨w.heap.size, 0, none⟩) 1 1, .int .u32 0, .int .i64 2, .slice (some ⟨w.heap.size + 2, 0, none⟩) 1 1, .slice none 0 0, .slice none 0 0, .slice none 0 0, .slice (some ⟨w.heap.size + 6, 0, none⟩) 2 2, .int .u32 0, .int .i64 2, .slice (some ⟨w.heap.size + 2, 0, none⟩) 1 1, .slice none 0 0, .slice none 0 0, .slice none 0 0, .slice (some ⟨w.heap.size + 7, 0, none⟩) 3 3, .int .u32 0, .int .i64 1, .slice none 0 0, .slice none 0 0, .slice none 0 0, .slice (some ⟨w.heap.size + 4, 0, none⟩) 4 4, .slice (some ⟨w.heap.size + 8, 0, none⟩) 3 3, .int .u32 0, .int .i64 1, .slice none 0 0, .slice none 0 0, .slice none 0 0, .slice (some ⟨w.heap.size + 4, 0, none⟩) 4 4] 90 W12 := by have := Blk.new W11 #[.slice (some ⟨w.heap.size, 0, none⟩) 1 1, .int .u32 0, .int .i64 2, .slice (some ⟨w.heap.size + 2, 0, none⟩) 1 1, .slice none 0 0, .slice none 0 0, .slice none 0 0, .slice (some ⟨w.heap.size + 6, 0, none⟩) 2 2, .int .u32 0, .int .i64 2, .slice (some ⟨w.heap.size + 2, 0, none⟩) 1 1, .slice none 0 0, .slice none 0 0, .slice none 0 0, .slice (some ⟨w.heap.size + 7, 0, none⟩) 3 3, .int .u32 0, .int .i64 1, .slice none 0 0, .slice none 0 0, .slice none 0 0, .slice (some ⟨w.heap.size + 4, 0, none⟩) 4 4, .slice (some ⟨w.heap.size + 8, 0, none⟩) 3 3, .int .u32 0, .int .i64 1, .slice none 0 0, .slice none 0 0, .slice none 0 0, .slice (some ⟨w.heap.size + 4, 0, none⟩) 4 4] 90; rw [hW12] at this; rw [sW11] at this; exact this
  have tW12 : Below W12.heap.size W12 W12 := Below.refl _ _
  have tW11 : Below W11.heap.size W11 W12 := below5 bW12 tW12
  have tW10 : Below W10.heap.size W10 W12 := below5 bW11 tW11
  have tW9 : Below W9.heap.size W9 W12 := below5 bW10 tW10
  have tW8 : Below W8.heap.size W8 W12 := below5 bW9 tW9
  have tW6 : Below W6.heap.size W6 W12 := below5 bW8 tW8
  have tW5 : Below W5.heap.size W5 W12 := below5 bW6 tW6
  have tW3 : Below W3.heap.size W3 W12 := below5 bW5 tW5
  have tW2 : Below W2.heap.size W2 W12 := below5 bW3 tW3
  have tW1 : Below W1.heap.size W1 W12 := below5 bW2 tW2
  have HBW := Lib.hid (below5 bW1 tW1)
  have m0 := k0.below tW1
  have m1 := k1.below tW2
  have m2 := k2.below tW3
  have m3 := k3.below tW5
  have m4 := k4.below tW6
  have m5 := k5.below tW8
  have m6 := k6.below tW9
  have m7 := k7.below tW10
  have m8 := k8.below tW11
  have m9 := k9.below tW12
  have q30W8 : W8.cell? ⟨w.heap.size + 3, 0, none⟩ = some _ := (k3.below (below5 bW6 bW8)).cell 0
  have q31W8 : W8.cell? ⟨w.heap.size + 3, 1, none⟩ = some _ := (k3.below (below5 bW6 bW8)).cell 1
  have q32W8 : W8.cell? ⟨w.heap.size + 3, 2, none⟩ = some _ := (k3.below (below5 bW6 bW8)).cell 2
  have q33W8 : W8.cell? ⟨w.heap.size + 3, 3, none⟩ = some _ := (k3.below (below5 bW6 bW8)).cell 3
  have q34W8 : W8.cell? ⟨w.heap.size + 3, 4, none⟩ = some _ := (k3.below (below5 bW6 bW8)).cell 4
  have q30W9 : W9.cell? ⟨w.heap.size + 3, 0, none⟩ = some _ := (k3.below (below5 (below5 bW6 bW8) bW9)).cell 0
  have q31W9 : W9.cell? ⟨w.heap.size + 3, 1, none⟩ = some _ := (k3.below (below5 (below5 bW6 bW8) bW9)).cell 1
  have q32W9 : W9.cell? ⟨w.heap.size + 3, 2, none⟩ = some _ := (k3.below (below5 (below5 bW6 bW8) bW9)).cell 2
  have q33W9 : W9.cell? ⟨w.heap.size + 3, 3, none⟩ = some _ := (k3.below (below5 (below5 bW6 bW8) bW9)).cell 3
  have q34W9 : W9.cell? ⟨w.heap.size + 3, 4, none⟩ = some _ := (k3.below (below5 (below5 bW6 bW8) bW9)).cell 4
  have q50W10 : W10.cell? ⟨w.heap.size + 5, 0, none⟩ = some _ := (k5.below (below5 bW9 bW10)).cell 0
  have q51W10 : W10.cell? ⟨w.heap.size + 5, 1, none⟩ = some _ := (k5.below (below5 bW9 bW10)).cell 1
  have q52W10 : W10.cell? ⟨w.heap.size + 5, 2, none⟩ = some _ := (k5.below (below5 bW9 bW10)).cell 2
  have q53W10 : W10.cell? ⟨w.heap.size + 5, 3, none⟩ = some _ := (k5.below (below5 bW9 bW10)).cell 3
  have q54W10 : W10.cell? ⟨w.heap.size + 5, 4, none⟩ = some _ := (k5.below (below5 bW9 bW10)).cell 4
  have q50W11 : W11.cell? ⟨w.heap.size + 5, 0, none⟩ = some _ := (k5.below (below5 (below5 bW9 bW10) bW11)).cell 0
  have q51W11 : W11.cell? ⟨w.heap.size + 5, 1, none⟩ = some _ := (k5.below (below5 (below5 bW9 bW10) bW11)).cell 1
  have q52W11 : W11.cell? ⟨w.heap.size + 5, 2, none⟩ = some _ := (k5.below (below5 (below5 bW9 bW10) bW11)).cell 2
  have q53W11 : W11.cell? ⟨w.heap.size + 5, 3, none⟩ = some _ := (k5.below (below5 (below5 bW9 bW10) bW11)).cell 3
  have q54W11 : W11.cell? ⟨w.heap.size + 5, 4, none⟩ = some _ := (k5.below (below5 (below5 bW9 bW10) bW11)).cell 4
  have hnil : Rd (.slice none 0 0) [] W12 := Rd.nil _
  have hslnil : Sl (.slice none 0 0) [] W12 := Sl.nil _
  have hns : NmsRd (.slice (some ⟨w.heap.size + 2, 0, none⟩) 1 1) [[[110, 115], [115], [111]]] W12 := by
    refine ⟨[.slice (some ⟨w.heap.size + 1, 0, none⟩) 3 3], rfl, sl_blk (cs := [.slice (some ⟨w.heap.size + 1, 0, none⟩) 3 3]) m2 (by simp), fun i h h2 => ?_⟩
    obtain rfl : i = 0 := by have h3 : i < 1 := h2; omega
    exact (rd_blk [[110, 115], [115], [111]] m1 (by decide))
  have hnm0 : NmsRd (.slice none 0 0) [] W12 := ⟨[], rfl, Sl.nil _, fun i h => by simp at h⟩
  have hraw : BtRd (.slice (some ⟨w.heap.size + 4, 0, none⟩) 4 4) [1, 2, 3, 4] W12 := sl_blk (cs := [.int .u8 1, .int .u8 2, .int .u8 3, .int .u8 4]) m4 (by simp)
  have hraw0 : BtRd (.slice none 0 0) [] W12 := Sl.nil _
  have e0 : RecRd [.slice (some ⟨w.heap.size, 0, none⟩) 1 1, .int .u32 0, .int .i64 2, .slice (some ⟨w.heap.size + 2, 0, none⟩) 1 1, .slice none 0 0, .slice none 0 0, .slice none 0 0] ⟨[[111]], 0, 2, [[[110, 115], [115], [111]]], [], [], []⟩ W12 ∧ RB ⟨[[111]], 0, 2, [[[110, 115], [115], [111]]], [], [], []⟩ := ⟨⟨_, _, rfl, (rd_blk [[111]] m0 (by decide)), _, _, _, _, rfl, hns, hslnil, hnil, hraw0⟩, ⟨nb_ok (by decide), ⟨by decide, fun n hn => by rw [List.mem_singleton] at hn; subst hn; exact nb_ok (by decide)⟩, ⟨by decide, by simp⟩, by decide, by decide⟩⟩
  have e1 : RecRd [.slice (some ⟨w.heap.size + 6, 0, none⟩) 2 2, .int .u32 0, .int .i64 2, .slice (some ⟨w.heap.size + 2, 0, none⟩) 1 1, .slice none 0 0, .slice none 0 0, .slice none 0 0] ⟨[[83], [111]], 0, 2, [[[110, 115], [115], [111]]], [], [], []⟩ W12 ∧ RB ⟨[[83], [111]], 0, 2, [[[110, 115], [115], [111]]], [], [], []⟩ := ⟨⟨_, _, rfl, (rd_blk [[83], [111]] m6 (by decide)), _, _, _, _, rfl, hns, hslnil, hnil, hraw0⟩, ⟨nb_ok (by decide), ⟨by decide, fun n hn => by rw [List.mem_singleton] at hn; subst hn; exact nb_ok (by decide)⟩, ⟨by decide, by simp⟩, by decide, by decide⟩⟩
  have e2 : RecRd [.slice (some ⟨w.heap.size + 7, 0, none⟩) 3 3, .int .u32 0, .int .i64 1, .slice none 0 0, .slice none 0 0, .slice none 0 0, .slice (some ⟨w.heap.size + 4, 0, none⟩) 4 4] ⟨[[110, 115], [115], [111]], 0, 1, [], [], [], [1, 2, 3, 4]⟩ W12 ∧ RB ⟨[[110, 115], [115], [111]], 0, 1, [], [], [], [1, 2, 3, 4]⟩ := ⟨⟨_, _, rfl, (rd_blk [[110, 115], [115], [111]] m7 (by decide)), _, _, _, _, rfl, hnm0, hslnil, hnil, hraw⟩, ⟨nb_ok (by decide), ⟨by decide, by simp⟩, ⟨by decide, by simp⟩, by decide, by decide⟩⟩
  have e3 : RecRd [.slice (some ⟨w.heap.size + 8, 0, none⟩) 3 3, .int .u32 0, .int .i64 1, .slice none 0 0, .slice none 0 0, .slice none 0 0, .slice (some ⟨w.heap.size + 4, 0, none⟩) 4 4] ⟨[[42], [119], [111]], 0, 1, [], [], [], [1, 2, 3, 4]⟩ W12 ∧ RB ⟨[[42], [119], [111]], 0, 1, [], [], [], [1, 2, 3, 4]⟩ := ⟨⟨_, _, rfl, (rd_blk [[42], [119], [111]] m8 (by decide)), _, _, _, _, rfl, hnm0, hslnil, hnil, hraw⟩, ⟨nb_ok (by decide), ⟨by decide, by simp⟩, ⟨by decide, by simp⟩, by decide, by decide⟩⟩
  obtain ⟨l, hl⟩ : ∃ l : List (El W12), [⟨([.slice (some ⟨w.heap.size, 0, none⟩) 1 1, .int .u32 0, .int .i64 2, .slice (some ⟨w.heap.size + 2, 0, none⟩) 1 1, .slice none 0 0, .slice none 0 0, .slice none 0 0], ⟨[[111]], 0, 2, [[[110, 115], [115], [111]]], [], [], []⟩), e0⟩, ⟨([.slice (some ⟨w.heap.size + 6, 0, none⟩) 2 2, .int .u32 0, .int .i64 2, .slice (some ⟨w.heap.size + 2, 0, none⟩) 1 1, .slice none 0 0, .slice none 0 0, .slice none 0 0], ⟨[[83], [111]], 0, 2, [[[110, 115], [115], [111]]], [], [], []⟩), e1⟩, ⟨([.slice (some ⟨w.heap.size + 7, 0, none⟩) 3 3, .int .u32 0, .int .i64 1, .slice none 0 0, .slice none 0 0, .slice none 0 0, .slice (some ⟨w.heap.size + 4, 0, none⟩) 4 4], ⟨[[110, 115], [115], [111]], 0, 1, [], [], [], [1, 2, 3, 4]⟩), e2⟩, ⟨([.slice (some ⟨w.heap.size + 8, 0, none⟩) 3 3, .int .u32 0, .int .i64 1, .slice none 0 0, .slice none 0 0, .slice none 0 0, .slice (some ⟨w.heap.size + 4, 0, none⟩) 4 4], ⟨[[42], [119], [111]], 0, 1, [], [], [], [1, 2, 3, 4]⟩), e3⟩] = l := ⟨_, rfl⟩
  have hl4 : l.length = 4 := by rw [← hl]; rfl
  have hpl : plE l = Zn.kr := by rw [← hl]; rfl
  have hrecs : RecsRd (.slice (some ⟨w.heap.size + 9, 0, none⟩) 4 4) (l.map (·.1)) W12 := by
    have := recs_blk l (by rw [← hl]; exact m9) (by rw [hl4]; decide)
    rw [hl4] at this; exact this
  have HNEW := Lib.hid (zNew_any (some ⟨w.heap.size, 0, none⟩) 1 1 (.slice (some ⟨w.heap.size + 9, 0, none⟩) 4 4) l hrecs (by rw [hl4]; decide))
  have HPL := Lib.hid hpl
  have HO := Lib.hid (rd_blk [[111]] m0 (by decide))
  have nb0 : NB [[111]] := nb_ok (by decide)
  clear k0 m0 k1 m1 k2 m2 k3 m3 k4 m4 k5 m5 k6 m6 k7 m7 k8 m8 k9 m9 tW1 tW2 tW3 tW5 tW6 tW8 tW9 tW10 tW11 tW12 bW1 bW2 bW3 bW5 bW6 bW8 bW9 bW10 bW11 bW12 e0 e1 e2 e3 hnil hslnil hns hnm0 hraw hraw0 hrecs hl4 hpl hl k3z k5z
  go_enter Tryz.func9, Tryz.ntmps9
  go_wp2_with fail
  refine HNEW.out.mono ?_
  rintro e w1 ⟨v1, l1, rfl, hr1, hp1, hn1, b1⟩
  obtain ⟨o1, c1, rfl⟩ : ∃ o cap, v1 = .slice o l1.length cap := by obtain ⟨_, o, cap, h, _⟩ := hr1; exact ⟨o, cap, by rw [h, List.length_map]⟩
  have hp : plE l1 = Rc.canon Zn.kr := by rw [hp1, HPL.out]
  have hl4 : l1.length = 4 := by
    have h4 : (plE l1).length = l1.length := by simp [plE]
    rw [← h4, hp]; decide +kernel
  clear x30 y30 z30 x31 y31 z31 x32 y32 z32 x33 y33 z33 x34 y34 z34 x50 y50 z50 x51 y51 z51 x52 y52 z52 x53 y53 z53 x54 y54 z54 q30W8 q31W8 q32W8 q33W8 q34W8 q30W9 q31W9 q32W9 q33W9 q34W9 q50W10 q51W10 q52W10 q53W10 q54W10 q50W11 q51W11 q52W11 q53W11 q54W11 hW1 hW2 hW3 hW5 hW6 hW8 hW9 hW10 hW11 hW12 hW5z hW8z sW1 sW2 sW3 sW5 sW6 sW8 sW9 sW10 sW11 sW12
  have na : l1.length ≤ 1000 := by omega
  have F1 := Lib.hid (show Zn.isCut [[111]] (plE l1) [[120], [115], [111]] = true by rw [hp]; decide +kernel)
  have F1b := Lib.hid (show Zn.cut [[111]] (plE l1) [[120], [115], [111]] = [[115], [111]] by rw [hp]; decide +kernel)
  have F2 := Lib.hid (show Zn.isCut [[111]] (plE l1) [[111]] = false by rw [hp]; decide +kernel)
  have F3 := Lib.hid (show Zn.isSrc [[111]] (plE l1) [[113], [119], [111]] = true by rw [hp]; decide +kernel)
  have F3b := Lib.hid (show Zn.src [[111]] (plE l1) [[113], [119], [111]] = [[42], [119], [111]] by rw [hp]; decide +kernel)
  have F4 := Lib.hid (show (Zn.glueT (plE l1) [[78, 83], [115], [111]] 2).length = 1 by rw [hp]; decide +kernel)
  have F5 := Lib.hid (show Zn.wher [[111]] (plE l1) [[115], [111]] = 2 by rw [hp]; decide +kernel)
  have F6 := Lib.hid (show Zn.wher [[111]] (plE l1) [[120], [115], [111]] = 3 by rw [hp]; decide +kernel)
  have F7 := Lib.hid (show Zn.wher [[111]] (plE l1) [[112]] = 0 by rw [hp]; decide +kernel)
  have F8 := Lib.hid (show Zn.wher [[111]] (plE l1) [[121], [111]] = 1 by rw [hp]; decide +kernel)
  have F9 := Lib.hid (show Zn.exi [[111]] (plE l1) [[119], [111]] = true by rw [hp]; decide +kernel)
  have F10 := Lib.hid (show Zn.exi [[111]] (plE l1) [[118], [111]] = false by rw [hp]; decide +kernel)
  have F11 := Lib.hid (show Zn.encl [[111]] (plE l1) [[113], [118], [111]] = [[111]] by rw [hp]; decide +kernel)
  obtain ⟨Wx, hWx⟩ : ∃ W, w1.alloc (.cells #[.slice none 0 0, .slice none 0 0] 29) = W := ⟨_, rfl⟩
  have kx : Blk w1.heap.size #[.slice none 0 0, .slice none 0 0] 29 Wx := by rw [← hWx]; exact Blk.new w1 _ _
  have g0 : Wx.cell? ⟨w1.heap.size, 0, none⟩ = some _ := kx.cell 0
  have g1 : Wx.cell? ⟨w1.heap.size, 1, none⟩ = some _ := kx.cell 1
  have f0 := kx.frozen 0
  have f1 := kx.frozen 1
  obtain ⟨Wy, hWy⟩ : ∃ W, (Wx.setCell ⟨w1.heap.size, 0, none⟩ (.slice (some ⟨w.heap.size, 0, none⟩) 1 1)).setCell ⟨w1.heap.size, 1, none⟩ (.slice o1 l1.length c1) = W := ⟨_, rfl⟩
  rw [hl4] at hWy hr1 ⊢
  have ky : Blk w1.heap.size #[.slice (some ⟨w.heap.size, 0, none⟩) 1 1, .slice o1 4 c1] 29 Wy := by rw [← hWy]; exact (kx.setAt 0 _).setAt 1 _
  have bwy : Below w1.heap.size w1 Wy := by rw [← hWy, ← hWx]; exact (((Below.refl _ _).alloc (Nat.le_refl _) _).setCell (p := ⟨w1.heap.size, 0, none⟩) (Nat.le_refl _) _).setCell (p := ⟨w1.heap.size, 1, none⟩) (Nat.le_refl _) _
  have HZ := Lib.hid ky
  have HBY := Lib.hid (below5 b1 bwy)
  have HRY := Lib.hid (hr1.kept bwy)
  have HOY := Lib.hid (HO.out.below (below5 b1 bwy))
  have t0 : Below Wy.heap.size Wy Wy := Below.refl _ _
  have x0a : Wy.cell? ⟨w1.heap.size, 0, none⟩ = some _ := ky.cell 0
  have x0b : Wy.cell? ⟨w1.heap.size, 1, none⟩ = some _ := ky.cell 1
  have ln4 : ((4 : Nat) : Int) = 4 := rfl
  clear hr1 hp1 hn1 kx ky bwy b1 hp HNEW
  obtain ⟨A0, hA0⟩ : ∃ W, Wy.alloc (.cells #[S [120], S [115], S [111]] 9) = W := ⟨_, rfl⟩
  have u0 : Below Wy.heap.size Wy A0 := by rw [← hA0]; exact t0.alloc t0.size _
  have r0 : Rd (.slice (some ⟨Wy.heap.size, 0, none⟩) 3 3) [[120], [115], [111]] A0 := by rw [← hA0]; exact rd_new [[120], [115], [111]] Wy (by decide)
  have HC0 := Lib.hid (zCutOf_any (w0 := A0) (.slice (some ⟨w.heap.size, 0, none⟩) 1 1) (.slice o1 4 c1) (.slice (some ⟨Wy.heap.size, 0, none⟩) 3 3) l1 [[111]] [[120], [115], [111]] (below5 HBY.out u0) (HRY.out.kept u0) na (HOY.out.below u0) nb0 r0 (nb_ok (by decide)))
  go_wp2_with fail
  refine HC0.out.mono ?_
  rintro e v0w ⟨v0, rfl, h0r, b0⟩
  rw [F1.out]
  rw [F1b.out] at h0r
  obtain ⟨o0v, c0v, rfl, _, _⟩ := h0r.form
  have R0 := Lib.hid h0r
  clear h0r
  have t1 : Below Wy.heap.size Wy v0w := below5 u0 b0
  have x1a : v0w.cell? ⟨w1.heap.size, 0, none⟩ = some _ := (HZ.out.below t1).cell 0
  have x1b : v0w.cell? ⟨w1.heap.size, 1, none⟩ = some _ := (HZ.out.below t1).cell 1
  clear b0 HC0 hA0 r0 u0 x0a x0b
  have HC1 := Lib.hid (zCutOf_any (w0 := v0w) (.slice (some ⟨w.heap.size, 0, none⟩) 1 1) (.slice o1 4 c1) (.slice (some ⟨w.heap.size, 0, none⟩) 1 1) l1 [[111]] [[111]] (below5 HBY.out t1) (HRY.out.kept t1) na (HOY.out.below t1) nb0 (HOY.out.below t1) (nb_ok (by decide)))
  go_wp2_with fail
  refine HC1.out.mono ?_
  rintro e v1w ⟨v1, rfl, h1r, b1⟩
  rw [F2.out]
  obtain ⟨o1v, c1v, rfl, _, _⟩ := h1r.form
  clear h1r
  have t2 : Below Wy.heap.size Wy v1w := below5 t1 b1
  have x2a : v1w.cell? ⟨w1.heap.size, 0, none⟩ = some _ := (HZ.out.below t2).cell 0
  have x2b : v1w.cell? ⟨w1.heap.size, 1, none⟩ = some _ := (HZ.out.below t2).cell 1
  clear b1 HC1 x1a x1b
  obtain ⟨A2, hA2⟩ : ∃ W, v1w.alloc (.cells #[S [113], S [119], S [111]] 9) = W := ⟨_, rfl⟩
  have u2 : Below Wy.heap.size Wy A2 := by rw [← hA2]; exact t2.alloc t2.size _
  have r2 : Rd (.slice (some ⟨v1w.heap.size, 0, none⟩) 3 3) [[113], [119], [111]] A2 := by rw [← hA2]; exact rd_new [[113], [119], [111]] v1w (by decide)
  have HC2 := Lib.hid (zSource_any (w0 := A2) (.slice (some ⟨w.heap.size, 0, none⟩) 1 1) (.slice o1 4 c1) (.slice (some ⟨v1w.heap.size, 0, none⟩) 3 3) l1 [[111]] [[113], [119], [111]] (below5 HBY.out u2) (HRY.out.kept u2) na (HOY.out.below u2) nb0 r2 (nb_ok (by decide)) (by decide))
  go_wp2_with fail
  refine HC2.out.mono ?_
  rintro e v2w ⟨v2, rfl, h2r, b2⟩
  rw [F3.out]
  rw [F3b.out] at h2r
  obtain ⟨o2v, c2v, rfl, _, _⟩ := h2r.form
  have R2 := Lib.hid h2r
  clear h2r
  obtain ⟨aS, rfl, _⟩ := R2.out.cells _ (Below.refl _ _) 0 (by decide)
  have t3 : Below Wy.heap.size Wy v2w := below5 u2 b2
  have x3a : v2w.cell? ⟨w1.heap.size, 0, none⟩ = some _ := (HZ.out.below t3).cell 0
  have x3b : v2w.cell? ⟨w1.heap.size, 1, none⟩ = some _ := (HZ.out.below t3).cell 1
  clear b2 HC2 hA2 r2 u2 x2a x2b
  have HtS := Lib.hid (show Below v2w.heap.size v2w v2w from Below.refl _ _)
  obtain ⟨A3, hA3⟩ : ∃ W, v2w.alloc (.cells #[S [78, 83], S [115], S [111]] 9) = W := ⟨_, rfl⟩
  have u3 : Below Wy.heap.size Wy A3 := by rw [← hA3]; exact t3.alloc t3.size _
  have r3 : Rd (.slice (some ⟨v2w.heap.size, 0, none⟩) 3 3) [[78, 83], [115], [111]] A3 := by rw [← hA3]; exact rd_new [[78, 83], [115], [111]] v2w (by decide)
  have HC3 := Lib.hid (zGlue_any (w0 := A3) (.slice (some ⟨w.heap.size, 0, none⟩) 1 1) (.slice o1 4 c1) (.slice (some ⟨v2w.heap.size, 0, none⟩) 3 3) l1 [[78, 83], [115], [111]] (below5 HBY.out u3) (HRY.out.kept u3) na r3 (nb_ok (by decide)))
  go_wp2_with fail
  refine HC3.out.mono ?_
  rintro e v3w ⟨oG, cG, dG, rfl, _, hG, b3⟩
  have hGl : dG.length = 1 := by have h := congrArg List.length hG; rw [F4.out] at h; simpa [plE] using h
  rw [hGl]
  clear hG
  replace HtS := Lib.hid (below5 HtS.out (below5 ((Below.refl _ _).alloc (Nat.le_refl _) _) (by rw [hA3]; exact b3)))
  have t4 : Below Wy.heap.size Wy v3w := below5 u3 b3
  have x4a : v3w.cell? ⟨w1.heap.size, 0, none⟩ = some _ := (HZ.out.below t4).cell 0
  have x4b : v3w.cell? ⟨w1.heap.size, 1, none⟩ = some _ := (HZ.out.below t4).cell 1
  clear b3 HC3 hA3 r3 u3 x3a x3b
  obtain ⟨A4, hA4⟩ : ∃ W, v3w.alloc (.cells #[S [115], S [111]] 9) = W := ⟨_, rfl⟩
  have u4 : Below Wy.heap.size Wy A4 := by rw [← hA4]; exact t4.alloc t4.size _
  have r4 : Rd (.slice (some ⟨v3w.heap.size, 0, none⟩) 2 2) [[115], [111]] A4 := by rw [← hA4]; exact rd_new [[115], [111]] v3w (by decide)
  have HC4 := Lib.hid (zWhere_any (w0 := A4) (.slice (some ⟨w.heap.size, 0, none⟩) 1 1) (.slice o1 4 c1) (.slice (some ⟨v3w.heap.size, 0, none⟩) 2 2) l1 [[111]] [[115], [111]] (below5 HBY.out u4) (HRY.out.kept u4) na (HOY.out.below u4) nb0 r4 (nb_ok (by decide)))
  go_wp2_with fail
  refine HC4.out.mono ?_
  rintro e v4w ⟨rfl, b4⟩
  rw [F5.out]
  replace HtS := Lib.hid (below5 HtS.out (below5 ((Below.refl _ _).alloc (Nat.le_refl _) _) (by rw [hA4]; exact b4)))
  have t5 : Below Wy.heap.size Wy v4w := below5 u4 b4
  have x5a : v4w.cell? ⟨w1.heap.size, 0, none⟩ = some _ := (HZ.out.below t5).cell 0
  have x5b : v4w.cell? ⟨w1.heap.size, 1, none⟩ = some _ := (HZ.out.below t5).cell 1
  clear b4 HC4 hA4 r4 u4 x4a x4b
  obtain ⟨A5, hA5⟩ : ∃ W, v4w.alloc (.cells #[S [120], S [115], S [111]] 9) = W := ⟨_, rfl⟩
  have u5 : Below Wy.heap.size Wy A5 := by rw [← hA5]; exact t5.alloc t5.size _
  have r5 : Rd (.slice (some ⟨v4w.heap.size, 0, none⟩) 3 3) [[120], [115], [111]] A5 := by rw [← hA5]; exact rd_new [[120], [115], [111]] v4w (by decide)
  have HC5 := Lib.hid (zWhere_any (w0 := A5) (.slice (some ⟨w.heap.size, 0, none⟩) 1 1) (.slice o1 4 c1) (.slice (some ⟨v4w.heap.size, 0, none⟩) 3 3) l1 [[111]] [[120], [115], [111]] (below5 HBY.out u5) (HRY.out.kept u5) na (HOY.out.below u5) nb0 r5 (nb_ok (by decide)))
  go_wp2_with fail
  refine HC5.out.mono ?_
  rintro e v5w ⟨rfl, b5⟩
  rw [F6.out]
  replace HtS := Lib.hid (below5 HtS.out (below5 ((Below.refl _ _).alloc (Nat.le_refl _) _) (by rw [hA5]; exact b5)))
  have t6 : Below Wy.heap.size Wy v5w := below5 u5 b5
  have x6a : v5w.cell? ⟨w1.heap.size, 0, none⟩ = some _ := (HZ.out.below t6).cell 0
  have x6b : v5w.cell? ⟨w1.heap.size, 1, none⟩ = some _ := (HZ.out.below t6).cell 1
  clear b5 HC5 hA5 r5 u5 x5a x5b
  obtain ⟨A6, hA6⟩ : ∃ W, v5w.alloc (.cells #[S [112]] 9) = W := ⟨_, rfl⟩
  have u6 : Below Wy.heap.size Wy A6 := by rw [← hA6]; exact t6.alloc t6.size _
  have r6 : Rd (.slice (some ⟨v5w.heap.size, 0, none⟩) 1 1) [[112]] A6 := by rw [← hA6]; exact rd_new [[112]] v5w (by decide)
  have HC6 := Lib.hid (zWhere_any (w0 := A6) (.slice (some ⟨w.heap.size, 0, none⟩) 1 1) (.slice o1 4 c1) (.slice (some ⟨v5w.heap.size, 0, none⟩) 1 1) l1 [[111]] [[112]] (below5 HBY.out u6) (HRY.out.kept u6) na (HOY.out.below u6) nb0 r6 (nb_ok (by decide)))
  go_wp2_with fail
  refine HC6.out.mono ?_
  rintro e v6w ⟨rfl, b6⟩
  rw [F7.out]
  replace HtS := Lib.hid (below5 HtS.out (below5 ((Below.refl _ _).alloc (Nat.le_refl _) _) (by rw [hA6]; exact b6)))
  have t7 : Below Wy.heap.size Wy v6w := below5 u6 b6
  have x7a : v6w.cell? ⟨w1.heap.size, 0, none⟩ = some _ := (HZ.out.below t7).cell 0
  have x7b : v6w.cell? ⟨w1.heap.size, 1, none⟩ = some _ := (HZ.out.below t7).cell 1
  clear b6 HC6 hA6 r6 u6 x6a x6b
  obtain ⟨A7, hA7⟩ : ∃ W, v6w.alloc (.cells #[S [121], S [111]] 9) = W := ⟨_, rfl⟩
  have u7 : Below Wy.heap.size Wy A7 := by rw [← hA7]; exact t7.alloc t7.size _
  have r7 : Rd (.slice (some ⟨v6w.heap.size, 0, none⟩) 2 2) [[121], [111]] A7 := by rw [← hA7]; exact rd_new [[121], [111]] v6w (by decide)
  have HC7 := Lib.hid (zWhere_any (w0 := A7) (.slice (some ⟨w.heap.size, 0, none⟩) 1 1) (.slice o1 4 c1) (.slice (some ⟨v6w.heap.size, 0, none⟩) 2 2) l1 [[111]] [[121], [111]] (below5 HBY.out u7) (HRY.out.kept u7) na (HOY.out.below u7) nb0 r7 (nb_ok (by decide)))
  go_wp2_with fail
  refine HC7.out.mono ?_
  rintro e v7w ⟨rfl, b7⟩
  rw [F8.out]
  replace HtS := Lib.hid (below5 HtS.out (below5 ((Below.refl _ _).alloc (Nat.le_refl _) _) (by rw [hA7]; exact b7)))
  have t8 : Below Wy.heap.size Wy v7w := below5 u7 b7
  have x8a : v7w.cell? ⟨w1.heap.size, 0, none⟩ = some _ := (HZ.out.below t8).cell 0
  have x8b : v7w.cell? ⟨w1.heap.size, 1, none⟩ = some _ := (HZ.out.below t8).cell 1
  clear b7 HC7 hA7 r7 u7 x7a x7b
  obtain ⟨A8, hA8⟩ : ∃ W, v7w.alloc (.cells #[S [119], S [111]] 9) = W := ⟨_, rfl⟩
  have u8 : Below Wy.heap.size Wy A8 := by rw [← hA8]; exact t8.alloc t8.size _
  have r8 : Rd (.slice (some ⟨v7w.heap.size, 0, none⟩) 2 2) [[119], [111]] A8 := by rw [← hA8]; exact rd_new [[119], [111]] v7w (by decide)
  have HC8 := Lib.hid (zExists_any (w0 := A8) (.slice (some ⟨w.heap.size, 0, none⟩) 1 1) (.slice o1 4 c1) (.slice (some ⟨v7w.heap.size, 0, none⟩) 2 2) l1 [[111]] [[119], [111]] (below5 HBY.out u8) (HRY.out.kept u8) na (HOY.out.below u8) nb0 r8 (nb_ok (by decide)))
  go_wp2_with fail
  refine HC8.out.mono ?_
  rintro e v8w ⟨rfl, b8⟩
  rw [F9.out]
  replace HtS := Lib.hid (below5 HtS.out (below5 ((Below.refl _ _).alloc (Nat.le_refl _) _) (by rw [hA8]; exact b8)))
  have t9 : Below Wy.heap.size Wy v8w := below5 u8 b8
  have x9a : v8w.cell? ⟨w1.heap.size, 0, none⟩ = some _ := (HZ.out.below t9).cell 0
  have x9b : v8w.cell? ⟨w1.heap.size, 1, none⟩ = some _ := (HZ.out.below t9).cell 1
  clear b8 HC8 hA8 r8 u8 x8a x8b
  obtain ⟨A9, hA9⟩ : ∃ W, v8w.alloc (.cells #[S [118], S [111]] 9) = W := ⟨_, rfl⟩
  have u9 : Below Wy.heap.size Wy A9 := by rw [← hA9]; exact t9.alloc t9.size _
  have r9 : Rd (.slice (some ⟨v8w.heap.size, 0, none⟩) 2 2) [[118], [111]] A9 := by rw [← hA9]; exact rd_new [[118], [111]] v8w (by decide)
  have HC9 := Lib.hid (zExists_any (w0 := A9) (.slice (some ⟨w.heap.size, 0, none⟩) 1 1) (.slice o1 4 c1) (.slice (some ⟨v8w.heap.size, 0, none⟩) 2 2) l1 [[111]] [[118], [111]] (below5 HBY.out u9) (HRY.out.kept u9) na (HOY.out.below u9) nb0 r9 (nb_ok (by decide)))
  go_wp2_with fail
  refine HC9.out.mono ?_
  rintro e v9w ⟨rfl, b9⟩
  rw [F10.out]
  replace HtS := Lib.hid (below5 HtS.out (below5 ((Below.refl _ _).alloc (Nat.le_refl _) _) (by rw [hA9]; exact b9)))
  have t10 : Below Wy.heap.size Wy v9w := below5 u9 b9
  have x10a : v9w.cell? ⟨w1.heap.size, 0, none⟩ = some _ := (HZ.out.below t10).cell 0
  have x10b : v9w.cell? ⟨w1.heap.size, 1, none⟩ = some _ := (HZ.out.below t10).cell 1
  clear b9 HC9 hA9 r9 u9 x9a x9b
  obtain ⟨A10, hA10⟩ : ∃ W, v9w.alloc (.cells #[S [113], S [118], S [111]] 9) = W := ⟨_, rfl⟩
  have u10 : Below Wy.heap.size Wy A10 := by rw [← hA10]; exact t10.alloc t10.size _
  have r10 : Rd (.slice (some ⟨v9w.heap.size, 0, none⟩) 3 3) [[113], [118], [111]] A10 := by rw [← hA10]; exact rd_new [[113], [118], [111]] v9w (by decide)
  have HC10 := Lib.hid (zEncloser_any (w0 := A10) (.slice (some ⟨w.heap.size, 0, none⟩) 1 1) (.slice o1 4 c1) (.slice (some ⟨v9w.heap.size, 0, none⟩) 3 3) l1 [[111]] [[113], [118], [111]] (below5 HBY.out u10) (HRY.out.kept u10) na (HOY.out.below u10) nb0 r10 (nb_ok (by decide)))
  go_wp2_with fail
  refine HC10.out.mono ?_
  rintro e v10w ⟨v10, rfl, h10r, b10⟩
  rw [F11.out] at h10r
  obtain ⟨o10v, c10v, rfl, _, _⟩ := h10r.form
  clear h10r
  replace HtS := Lib.hid (below5 HtS.out (below5 ((Below.refl _ _).alloc (Nat.le_refl _) _) (by rw [hA10]; exact b10)))
  have t11 : Below Wy.heap.size Wy v10w := below5 u10 b10
  have x11a : v10w.cell? ⟨w1.heap.size, 0, none⟩ = some _ := (HZ.out.below t11).cell 0
  have x11b : v10w.cell? ⟨w1.heap.size, 1, none⟩ = some _ := (HZ.out.below t11).cell 1
  clear b10 HC10 hA10 r10 u10 x10a x10b
  have hcS : v10w.cell? aS = some (S [42]) := by
    obtain ⟨a2, ha2, hc2⟩ := R2.out.cells _ HtS.out 0 (by decide)
    cases ha2; exact hc2
  have HBF := Lib.hid (below5 HBW.out (below5 HBY.out t11))
  go_wp2_with fail
  go_ret
  exact ⟨rfl, HBF.out⟩
end Go.Proofs.YtneghhbclefmoaaGreat
