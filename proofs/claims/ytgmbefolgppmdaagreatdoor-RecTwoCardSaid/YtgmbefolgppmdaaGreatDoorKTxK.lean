/- Records: the laws' own 'known'. -/
import Derived.Test.YtgmbefolgppmdaaGreatDoorKTxF
import Derived.Test.YtgmbefolgppmdaaGreatDoorKZnK
import Derived.Test.YtgmbefolgppmdaaGreatDoorKRsA
import Derived.Test.YtgmbefolgppmdaaGreatDoorKRcL
namespace Go.Proofs.YtgmbefolgppmdaaGreatDoor
open Go.RowKit Go.Shelf Go.Sort
set_option maxRecDepth 100000
def allocs (w : World) : List (Array Value × TypeId) -> World
 | [] => w
 | p :: r => allocs (w.alloc (.cells p.1 p.2)) r
theorem allocs_below : ∀ (l : List (Array Value × TypeId)) (w : World), Below w.heap.size w (allocs w l)
 | [], w => Below.refl _ _
 | p :: r, w => ((Below.refl w.heap.size w).alloc (Nat.le_refl _) _).trans ((allocs_below r _).mono (by simp))
theorem allocs_blk : ∀ (l : List (Array Value × TypeId)) (w : World) (i : Nat) (h : i < l.length), Blk (w.heap.size + i) l[i].1 l[i].2 (allocs w l)
 | p :: r, w, 0, _ => (Blk.new w p.1 p.2).below (allocs_below r _)
 | p :: r, w, i + 1, h => by
  have := allocs_blk r (w.alloc (.cells p.1 p.2)) i (by simpa using h)
  rw [World.size_alloc] at this
  rw [show w.heap.size + (i + 1) = w.heap.size + 1 + i by omega]
  exact this
abbrev Rc.ka : Rc.PRec := ⟨[[65]], 5, 1, [], [], [], [1, 2, 3, 4]⟩
abbrev Rc.kb : Rc.PRec := ⟨[[97]], 3, 1, [], [], [], [1, 2, 3, 4]⟩
abbrev Rc.kc : Rc.PRec := ⟨[], 3, 1, [], [], [], [1, 2, 3, 4]⟩
abbrev Rc.kd : Rc.PRec := ⟨[[65]], 3, 1, [], [], [], [1, 2, 3, 4]⟩
theorem Rc.k5_canon : Rc.canon [Rc.ka, Rc.kc, Rc.kb] = [Rc.kc, Rc.kd] := by kernel_rfl
theorem Rc.k5_text : Tx.recA [[65]] 5 [1, 2, 3, 4] = [65, 46, 32, 53, 32, 73, 78, 32, 65, 32, 49, 46, 50, 46, 51, 46, 52] := by decide +kernel
set_option maxHeartbeats 8000000 in
theorem known5_any (w : World) (ht : Tab w) : Calls Tryz.prog 4 #[] w (Gives (.bool true) w) := by
 have HT := Lib.hid ht
 clear ht
 obtain ⟨W, hW⟩ : ∃ W, ((((((((w.alloc (.cells #[S [65]] 9)).alloc (.cells #[.int .u8 1, .int .u8 2, .int .u8 3, .int .u8 4] 5)).alloc (.cells #[.slice (some ⟨w.heap.size, 0, none⟩) 1 1, .int .u32 5, .int .i64 1, .slice none 0 0, .slice none 0 0, .slice none 0 0, .slice (some ⟨w.heap.size + 1, 0, none⟩) 4 4] 31)).alloc (.cells #[S [97]] 9)).alloc (.cells #[.slice (some ⟨w.heap.size + 3, 0, none⟩) 1 1, .int .u32 3, .int .i64 1, .slice none 0 0, .slice none 0 0, .slice none 0 0, .slice (some ⟨w.heap.size + 1, 0, none⟩) 4 4] 31)).alloc (.cells #[] 9)).alloc (.cells #[.slice (some ⟨w.heap.size + 5, 0, none⟩) 0 0, .int .u32 3, .int .i64 1, .slice none 0 0, .slice none 0 0, .slice none 0 0, .slice (some ⟨w.heap.size + 1, 0, none⟩) 4 4] 31)).alloc (.cells #[.slice (some ⟨w.heap.size, 0, none⟩) 1 1, .int .u32 5, .int .i64 1, .slice none 0 0, .slice none 0 0, .slice none 0 0, .slice (some ⟨w.heap.size + 1, 0, none⟩) 4 4, .slice (some ⟨w.heap.size + 5, 0, none⟩) 0 0, .int .u32 3, .int .i64 1, .slice none 0 0, .slice none 0 0, .slice none 0 0, .slice (some ⟨w.heap.size + 1, 0, none⟩) 4 4, .slice (some ⟨w.heap.size + 3, 0, none⟩) 1 1, .int .u32 3, .int .i64 1, .slice none 0 0, .slice none 0 0, .slice none 0 0, .slice (some ⟨w.heap.size + 1, 0, none⟩) 4 4] 31)) = W := ⟨_, rfl⟩
 have hA : allocs w [(#[S [65]], 9), (#[.int .u8 1, .int .u8 2, .int .u8 3, .int .u8 4], 5), (#[.slice (some ⟨w.heap.size, 0, none⟩) 1 1, .int .u32 5, .int .i64 1, .slice none 0 0, .slice none 0 0, .slice none 0 0, .slice (some ⟨w.heap.size + 1, 0, none⟩) 4 4], 31), (#[S [97]], 9), (#[.slice (some ⟨w.heap.size + 3, 0, none⟩) 1 1, .int .u32 3, .int .i64 1, .slice none 0 0, .slice none 0 0, .slice none 0 0, .slice (some ⟨w.heap.size + 1, 0, none⟩) 4 4], 31), (#[], 9), (#[.slice (some ⟨w.heap.size + 5, 0, none⟩) 0 0, .int .u32 3, .int .i64 1, .slice none 0 0, .slice none 0 0, .slice none 0 0, .slice (some ⟨w.heap.size + 1, 0, none⟩) 4 4], 31), (#[.slice (some ⟨w.heap.size, 0, none⟩) 1 1, .int .u32 5, .int .i64 1, .slice none 0 0, .slice none 0 0, .slice none 0 0, .slice (some ⟨w.heap.size + 1, 0, none⟩) 4 4, .slice (some ⟨w.heap.size + 5, 0, none⟩) 0 0, .int .u32 3, .int .i64 1, .slice none 0 0, .slice none 0 0, .slice none 0 0, .slice (some ⟨w.heap.size + 1, 0, none⟩) 4 4, .slice (some ⟨w.heap.size + 3, 0, none⟩) 1 1, .int .u32 3, .int .i64 1, .slice none 0 0, .slice none 0 0, .slice none 0 0, .slice (some ⟨w.heap.size + 1, 0, none⟩) 4 4], 31)] = W := hW
 have bW : Below w.heap.size w W := by rw [<- hA]; exact allocs_below _ _
 have m0 : Blk (w.heap.size) #[S [65]] 9 W := by have := allocs_blk [(#[S [65]], 9), (#[.int .u8 1, .int .u8 2, .int .u8 3, .int .u8 4], 5), (#[.slice (some ⟨w.heap.size, 0, none⟩) 1 1, .int .u32 5, .int .i64 1, .slice none 0 0, .slice none 0 0, .slice none 0 0, .slice (some ⟨w.heap.size + 1, 0, none⟩) 4 4], 31), (#[S [97]], 9), (#[.slice (some ⟨w.heap.size + 3, 0, none⟩) 1 1, .int .u32 3, .int .i64 1, .slice none 0 0, .slice none 0 0, .slice none 0 0, .slice (some ⟨w.heap.size + 1, 0, none⟩) 4 4], 31), (#[], 9), (#[.slice (some ⟨w.heap.size + 5, 0, none⟩) 0 0, .int .u32 3, .int .i64 1, .slice none 0 0, .slice none 0 0, .slice none 0 0, .slice (some ⟨w.heap.size + 1, 0, none⟩) 4 4], 31), (#[.slice (some ⟨w.heap.size, 0, none⟩) 1 1, .int .u32 5, .int .i64 1, .slice none 0 0, .slice none 0 0, .slice none 0 0, .slice (some ⟨w.heap.size + 1, 0, none⟩) 4 4, .slice (some ⟨w.heap.size + 5, 0, none⟩) 0 0, .int .u32 3, .int .i64 1, .slice none 0 0, .slice none 0 0, .slice none 0 0, .slice (some ⟨w.heap.size + 1, 0, none⟩) 4 4, .slice (some ⟨w.heap.size + 3, 0, none⟩) 1 1, .int .u32 3, .int .i64 1, .slice none 0 0, .slice none 0 0, .slice none 0 0, .slice (some ⟨w.heap.size + 1, 0, none⟩) 4 4], 31)] w 0 (by simp); rw [hA] at this; exact this
 have m1 : Blk (w.heap.size + 1) #[.int .u8 1, .int .u8 2, .int .u8 3, .int .u8 4] 5 W := by have := allocs_blk [(#[S [65]], 9), (#[.int .u8 1, .int .u8 2, .int .u8 3, .int .u8 4], 5), (#[.slice (some ⟨w.heap.size, 0, none⟩) 1 1, .int .u32 5, .int .i64 1, .slice none 0 0, .slice none 0 0, .slice none 0 0, .slice (some ⟨w.heap.size + 1, 0, none⟩) 4 4], 31), (#[S [97]], 9), (#[.slice (some ⟨w.heap.size + 3, 0, none⟩) 1 1, .int .u32 3, .int .i64 1, .slice none 0 0, .slice none 0 0, .slice none 0 0, .slice (some ⟨w.heap.size + 1, 0, none⟩) 4 4], 31), (#[], 9), (#[.slice (some ⟨w.heap.size + 5, 0, none⟩) 0 0, .int .u32 3, .int .i64 1, .slice none 0 0, .slice none 0 0, .slice none 0 0, .slice (some ⟨w.heap.size + 1, 0, none⟩) 4 4], 31), (#[.slice (some ⟨w.heap.size, 0, none⟩) 1 1, .int .u32 5, .int .i64 1, .slice none 0 0, .slice none 0 0, .slice none 0 0, .slice (some ⟨w.heap.size + 1, 0, none⟩) 4 4, .slice (some ⟨w.heap.size + 5, 0, none⟩) 0 0, .int .u32 3, .int .i64 1, .slice none 0 0, .slice none 0 0, .slice none 0 0, .slice (some ⟨w.heap.size + 1, 0, none⟩) 4 4, .slice (some ⟨w.heap.size + 3, 0, none⟩) 1 1, .int .u32 3, .int .i64 1, .slice none 0 0, .slice none 0 0, .slice none 0 0, .slice (some ⟨w.heap.size + 1, 0, none⟩) 4 4], 31)] w 1 (by simp); rw [hA] at this; exact this
 have m2 : Blk (w.heap.size + 2) #[.slice (some ⟨w.heap.size, 0, none⟩) 1 1, .int .u32 5, .int .i64 1, .slice none 0 0, .slice none 0 0, .slice none 0 0, .slice (some ⟨w.heap.size + 1, 0, none⟩) 4 4] 31 W := by have := allocs_blk [(#[S [65]], 9), (#[.int .u8 1, .int .u8 2, .int .u8 3, .int .u8 4], 5), (#[.slice (some ⟨w.heap.size, 0, none⟩) 1 1, .int .u32 5, .int .i64 1, .slice none 0 0, .slice none 0 0, .slice none 0 0, .slice (some ⟨w.heap.size + 1, 0, none⟩) 4 4], 31), (#[S [97]], 9), (#[.slice (some ⟨w.heap.size + 3, 0, none⟩) 1 1, .int .u32 3, .int .i64 1, .slice none 0 0, .slice none 0 0, .slice none 0 0, .slice (some ⟨w.heap.size + 1, 0, none⟩) 4 4], 31), (#[], 9), (#[.slice (some ⟨w.heap.size + 5, 0, none⟩) 0 0, .int .u32 3, .int .i64 1, .slice none 0 0, .slice none 0 0, .slice none 0 0, .slice (some ⟨w.heap.size + 1, 0, none⟩) 4 4], 31), (#[.slice (some ⟨w.heap.size, 0, none⟩) 1 1, .int .u32 5, .int .i64 1, .slice none 0 0, .slice none 0 0, .slice none 0 0, .slice (some ⟨w.heap.size + 1, 0, none⟩) 4 4, .slice (some ⟨w.heap.size + 5, 0, none⟩) 0 0, .int .u32 3, .int .i64 1, .slice none 0 0, .slice none 0 0, .slice none 0 0, .slice (some ⟨w.heap.size + 1, 0, none⟩) 4 4, .slice (some ⟨w.heap.size + 3, 0, none⟩) 1 1, .int .u32 3, .int .i64 1, .slice none 0 0, .slice none 0 0, .slice none 0 0, .slice (some ⟨w.heap.size + 1, 0, none⟩) 4 4], 31)] w 2 (by simp); rw [hA] at this; exact this
 have m3 : Blk (w.heap.size + 3) #[S [97]] 9 W := by have := allocs_blk [(#[S [65]], 9), (#[.int .u8 1, .int .u8 2, .int .u8 3, .int .u8 4], 5), (#[.slice (some ⟨w.heap.size, 0, none⟩) 1 1, .int .u32 5, .int .i64 1, .slice none 0 0, .slice none 0 0, .slice none 0 0, .slice (some ⟨w.heap.size + 1, 0, none⟩) 4 4], 31), (#[S [97]], 9), (#[.slice (some ⟨w.heap.size + 3, 0, none⟩) 1 1, .int .u32 3, .int .i64 1, .slice none 0 0, .slice none 0 0, .slice none 0 0, .slice (some ⟨w.heap.size + 1, 0, none⟩) 4 4], 31), (#[], 9), (#[.slice (some ⟨w.heap.size + 5, 0, none⟩) 0 0, .int .u32 3, .int .i64 1, .slice none 0 0, .slice none 0 0, .slice none 0 0, .slice (some ⟨w.heap.size + 1, 0, none⟩) 4 4], 31), (#[.slice (some ⟨w.heap.size, 0, none⟩) 1 1, .int .u32 5, .int .i64 1, .slice none 0 0, .slice none 0 0, .slice none 0 0, .slice (some ⟨w.heap.size + 1, 0, none⟩) 4 4, .slice (some ⟨w.heap.size + 5, 0, none⟩) 0 0, .int .u32 3, .int .i64 1, .slice none 0 0, .slice none 0 0, .slice none 0 0, .slice (some ⟨w.heap.size + 1, 0, none⟩) 4 4, .slice (some ⟨w.heap.size + 3, 0, none⟩) 1 1, .int .u32 3, .int .i64 1, .slice none 0 0, .slice none 0 0, .slice none 0 0, .slice (some ⟨w.heap.size + 1, 0, none⟩) 4 4], 31)] w 3 (by simp); rw [hA] at this; exact this
 have m4 : Blk (w.heap.size + 4) #[.slice (some ⟨w.heap.size + 3, 0, none⟩) 1 1, .int .u32 3, .int .i64 1, .slice none 0 0, .slice none 0 0, .slice none 0 0, .slice (some ⟨w.heap.size + 1, 0, none⟩) 4 4] 31 W := by have := allocs_blk [(#[S [65]], 9), (#[.int .u8 1, .int .u8 2, .int .u8 3, .int .u8 4], 5), (#[.slice (some ⟨w.heap.size, 0, none⟩) 1 1, .int .u32 5, .int .i64 1, .slice none 0 0, .slice none 0 0, .slice none 0 0, .slice (some ⟨w.heap.size + 1, 0, none⟩) 4 4], 31), (#[S [97]], 9), (#[.slice (some ⟨w.heap.size + 3, 0, none⟩) 1 1, .int .u32 3, .int .i64 1, .slice none 0 0, .slice none 0 0, .slice none 0 0, .slice (some ⟨w.heap.size + 1, 0, none⟩) 4 4], 31), (#[], 9), (#[.slice (some ⟨w.heap.size + 5, 0, none⟩) 0 0, .int .u32 3, .int .i64 1, .slice none 0 0, .slice none 0 0, .slice none 0 0, .slice (some ⟨w.heap.size + 1, 0, none⟩) 4 4], 31), (#[.slice (some ⟨w.heap.size, 0, none⟩) 1 1, .int .u32 5, .int .i64 1, .slice none 0 0, .slice none 0 0, .slice none 0 0, .slice (some ⟨w.heap.size + 1, 0, none⟩) 4 4, .slice (some ⟨w.heap.size + 5, 0, none⟩) 0 0, .int .u32 3, .int .i64 1, .slice none 0 0, .slice none 0 0, .slice none 0 0, .slice (some ⟨w.heap.size + 1, 0, none⟩) 4 4, .slice (some ⟨w.heap.size + 3, 0, none⟩) 1 1, .int .u32 3, .int .i64 1, .slice none 0 0, .slice none 0 0, .slice none 0 0, .slice (some ⟨w.heap.size + 1, 0, none⟩) 4 4], 31)] w 4 (by simp); rw [hA] at this; exact this
 have m5 : Blk (w.heap.size + 5) #[] 9 W := by have := allocs_blk [(#[S [65]], 9), (#[.int .u8 1, .int .u8 2, .int .u8 3, .int .u8 4], 5), (#[.slice (some ⟨w.heap.size, 0, none⟩) 1 1, .int .u32 5, .int .i64 1, .slice none 0 0, .slice none 0 0, .slice none 0 0, .slice (some ⟨w.heap.size + 1, 0, none⟩) 4 4], 31), (#[S [97]], 9), (#[.slice (some ⟨w.heap.size + 3, 0, none⟩) 1 1, .int .u32 3, .int .i64 1, .slice none 0 0, .slice none 0 0, .slice none 0 0, .slice (some ⟨w.heap.size + 1, 0, none⟩) 4 4], 31), (#[], 9), (#[.slice (some ⟨w.heap.size + 5, 0, none⟩) 0 0, .int .u32 3, .int .i64 1, .slice none 0 0, .slice none 0 0, .slice none 0 0, .slice (some ⟨w.heap.size + 1, 0, none⟩) 4 4], 31), (#[.slice (some ⟨w.heap.size, 0, none⟩) 1 1, .int .u32 5, .int .i64 1, .slice none 0 0, .slice none 0 0, .slice none 0 0, .slice (some ⟨w.heap.size + 1, 0, none⟩) 4 4, .slice (some ⟨w.heap.size + 5, 0, none⟩) 0 0, .int .u32 3, .int .i64 1, .slice none 0 0, .slice none 0 0, .slice none 0 0, .slice (some ⟨w.heap.size + 1, 0, none⟩) 4 4, .slice (some ⟨w.heap.size + 3, 0, none⟩) 1 1, .int .u32 3, .int .i64 1, .slice none 0 0, .slice none 0 0, .slice none 0 0, .slice (some ⟨w.heap.size + 1, 0, none⟩) 4 4], 31)] w 5 (by simp); rw [hA] at this; exact this
 have m6 : Blk (w.heap.size + 6) #[.slice (some ⟨w.heap.size + 5, 0, none⟩) 0 0, .int .u32 3, .int .i64 1, .slice none 0 0, .slice none 0 0, .slice none 0 0, .slice (some ⟨w.heap.size + 1, 0, none⟩) 4 4] 31 W := by have := allocs_blk [(#[S [65]], 9), (#[.int .u8 1, .int .u8 2, .int .u8 3, .int .u8 4], 5), (#[.slice (some ⟨w.heap.size, 0, none⟩) 1 1, .int .u32 5, .int .i64 1, .slice none 0 0, .slice none 0 0, .slice none 0 0, .slice (some ⟨w.heap.size + 1, 0, none⟩) 4 4], 31), (#[S [97]], 9), (#[.slice (some ⟨w.heap.size + 3, 0, none⟩) 1 1, .int .u32 3, .int .i64 1, .slice none 0 0, .slice none 0 0, .slice none 0 0, .slice (some ⟨w.heap.size + 1, 0, none⟩) 4 4], 31), (#[], 9), (#[.slice (some ⟨w.heap.size + 5, 0, none⟩) 0 0, .int .u32 3, .int .i64 1, .slice none 0 0, .slice none 0 0, .slice none 0 0, .slice (some ⟨w.heap.size + 1, 0, none⟩) 4 4], 31), (#[.slice (some ⟨w.heap.size, 0, none⟩) 1 1, .int .u32 5, .int .i64 1, .slice none 0 0, .slice none 0 0, .slice none 0 0, .slice (some ⟨w.heap.size + 1, 0, none⟩) 4 4, .slice (some ⟨w.heap.size + 5, 0, none⟩) 0 0, .int .u32 3, .int .i64 1, .slice none 0 0, .slice none 0 0, .slice none 0 0, .slice (some ⟨w.heap.size + 1, 0, none⟩) 4 4, .slice (some ⟨w.heap.size + 3, 0, none⟩) 1 1, .int .u32 3, .int .i64 1, .slice none 0 0, .slice none 0 0, .slice none 0 0, .slice (some ⟨w.heap.size + 1, 0, none⟩) 4 4], 31)] w 6 (by simp); rw [hA] at this; exact this
 have m7 : Blk (w.heap.size + 7) #[.slice (some ⟨w.heap.size, 0, none⟩) 1 1, .int .u32 5, .int .i64 1, .slice none 0 0, .slice none 0 0, .slice none 0 0, .slice (some ⟨w.heap.size + 1, 0, none⟩) 4 4, .slice (some ⟨w.heap.size + 5, 0, none⟩) 0 0, .int .u32 3, .int .i64 1, .slice none 0 0, .slice none 0 0, .slice none 0 0, .slice (some ⟨w.heap.size + 1, 0, none⟩) 4 4, .slice (some ⟨w.heap.size + 3, 0, none⟩) 1 1, .int .u32 3, .int .i64 1, .slice none 0 0, .slice none 0 0, .slice none 0 0, .slice (some ⟨w.heap.size + 1, 0, none⟩) 4 4] 31 W := by have := allocs_blk [(#[S [65]], 9), (#[.int .u8 1, .int .u8 2, .int .u8 3, .int .u8 4], 5), (#[.slice (some ⟨w.heap.size, 0, none⟩) 1 1, .int .u32 5, .int .i64 1, .slice none 0 0, .slice none 0 0, .slice none 0 0, .slice (some ⟨w.heap.size + 1, 0, none⟩) 4 4], 31), (#[S [97]], 9), (#[.slice (some ⟨w.heap.size + 3, 0, none⟩) 1 1, .int .u32 3, .int .i64 1, .slice none 0 0, .slice none 0 0, .slice none 0 0, .slice (some ⟨w.heap.size + 1, 0, none⟩) 4 4], 31), (#[], 9), (#[.slice (some ⟨w.heap.size + 5, 0, none⟩) 0 0, .int .u32 3, .int .i64 1, .slice none 0 0, .slice none 0 0, .slice none 0 0, .slice (some ⟨w.heap.size + 1, 0, none⟩) 4 4], 31), (#[.slice (some ⟨w.heap.size, 0, none⟩) 1 1, .int .u32 5, .int .i64 1, .slice none 0 0, .slice none 0 0, .slice none 0 0, .slice (some ⟨w.heap.size + 1, 0, none⟩) 4 4, .slice (some ⟨w.heap.size + 5, 0, none⟩) 0 0, .int .u32 3, .int .i64 1, .slice none 0 0, .slice none 0 0, .slice none 0 0, .slice (some ⟨w.heap.size + 1, 0, none⟩) 4 4, .slice (some ⟨w.heap.size + 3, 0, none⟩) 1 1, .int .u32 3, .int .i64 1, .slice none 0 0, .slice none 0 0, .slice none 0 0, .slice (some ⟨w.heap.size + 1, 0, none⟩) 4 4], 31)] w 7 (by simp); rw [hA] at this; exact this
 have hnil : Rd (.slice none 0 0) [] W := Rd.nil _
 have hsl : Sl (.slice none 0 0) [] W := Sl.nil _
 have hnm0 : NmsRd (.slice none 0 0) [] W := ⟨[], rfl, Sl.nil _, fun i h => by simp at h⟩
 have hraw : BtRd (.slice (some ⟨w.heap.size + 1, 0, none⟩) 4 4) [1, 2, 3, 4] W := sl_blk (cs := [.int .u8 1, .int .u8 2, .int .u8 3, .int .u8 4]) m1 (by simp)
 have oa : Rd (.slice (some ⟨w.heap.size, 0, none⟩) 1 1) [[65]] W := rd_blk [[65]] m0 (by decide)
 have ob : Rd (.slice (some ⟨w.heap.size + 3, 0, none⟩) 1 1) [[97]] W := rd_blk [[97]] m3 (by decide)
 have oc : Rd (.slice (some ⟨w.heap.size + 5, 0, none⟩) 0 0) [] W := rd_blk [] m5 (by decide)
 have ea : RecRd [.slice (some ⟨w.heap.size, 0, none⟩) 1 1, .int .u32 5, .int .i64 1, .slice none 0 0, .slice none 0 0, .slice none 0 0, .slice (some ⟨w.heap.size + 1, 0, none⟩) 4 4] Rc.ka W /\ RB Rc.ka := ⟨⟨_, _, rfl, oa, _, _, _, _, rfl, hnm0, hsl, hnil, hraw⟩, ⟨nb_ok (by decide), ⟨by decide, by simp⟩, ⟨by decide, by simp⟩, by decide, by decide⟩⟩
 have eb : RecRd [.slice (some ⟨w.heap.size + 3, 0, none⟩) 1 1, .int .u32 3, .int .i64 1, .slice none 0 0, .slice none 0 0, .slice none 0 0, .slice (some ⟨w.heap.size + 1, 0, none⟩) 4 4] Rc.kb W /\ RB Rc.kb := ⟨⟨_, _, rfl, ob, _, _, _, _, rfl, hnm0, hsl, hnil, hraw⟩, ⟨nb_ok (by decide), ⟨by decide, by simp⟩, ⟨by decide, by simp⟩, by decide, by decide⟩⟩
 have ec : RecRd [.slice (some ⟨w.heap.size + 5, 0, none⟩) 0 0, .int .u32 3, .int .i64 1, .slice none 0 0, .slice none 0 0, .slice none 0 0, .slice (some ⟨w.heap.size + 1, 0, none⟩) 4 4] Rc.kc W /\ RB Rc.kc := ⟨⟨_, _, rfl, oc, _, _, _, _, rfl, hnm0, hsl, hnil, hraw⟩, ⟨nb_ok (by decide), ⟨by decide, by simp⟩, ⟨by decide, by simp⟩, by decide, by decide⟩⟩
 obtain ⟨l, hl⟩ : ∃ l : List (El W), [⟨([.slice (some ⟨w.heap.size, 0, none⟩) 1 1, .int .u32 5, .int .i64 1, .slice none 0 0, .slice none 0 0, .slice none 0 0, .slice (some ⟨w.heap.size + 1, 0, none⟩) 4 4], Rc.ka), ea⟩, ⟨([.slice (some ⟨w.heap.size + 5, 0, none⟩) 0 0, .int .u32 3, .int .i64 1, .slice none 0 0, .slice none 0 0, .slice none 0 0, .slice (some ⟨w.heap.size + 1, 0, none⟩) 4 4], Rc.kc), ec⟩, ⟨([.slice (some ⟨w.heap.size + 3, 0, none⟩) 1 1, .int .u32 3, .int .i64 1, .slice none 0 0, .slice none 0 0, .slice none 0 0, .slice (some ⟨w.heap.size + 1, 0, none⟩) 4 4], Rc.kb), eb⟩] = l := ⟨_, rfl⟩
 have hl3 : l.length = 3 := by rw [<- hl]; rfl
 have hpl : plE l = [Rc.ka, Rc.kc, Rc.kb] := by rw [<- hl]; rfl
 have hrecs : RecsRd (.slice (some ⟨w.heap.size + 7, 0, none⟩) 3 3) (l.map (·.1)) W := by
  have := recs_blk l (by rw [<- hl]; exact m7) (by rw [hl3]; decide)
  rw [hl3] at this; exact this
 have HCAN := Lib.hid (canon_any (.slice (some ⟨w.heap.size + 7, 0, none⟩) 3 3) l hrecs (by rw [hl3]; decide))
 have HEA := Lib.hid ea
 have HEB := Lib.hid eb
 have HEC := Lib.hid ec
 have HOA := Lib.hid oa
 have HRAW := Lib.hid hraw
 have M2 := Lib.hid m2
 have M4 := Lib.hid m4
 have M6 := Lib.hid m6
 have HPL := Lib.hid hpl
 have HBW := Lib.hid bW
 have HW := Lib.hid hW
 clear hA bW m0 m1 m2 m3 m4 m5 m6 m7 hnil hsl hnm0 hraw oa ob oc ea eb ec hrecs hpl hl3 hl hW
 refine (callsIn_wide (n := 0)).1 ?_
 refine callsIn_of_wp Tryz.func4 rfl trivial ?_ rfl
 simp only [Tryz.ntmps4, List.size_toArray, List.length_nil, Nat.reduceSub, Array.replicate_succ, Array.replicate_zero, List.push_toArray, List.append_toArray, List.nil_append, List.cons_append]
 gi_wp2_with fail
 rw [show w.heap.size + 1 + 1 = w.heap.size + 2 from rfl, show w.heap.size + 2 + 1 = w.heap.size + 3 from rfl, show w.heap.size + 3 + 1 = w.heap.size + 4 from rfl, show w.heap.size + 4 + 1 = w.heap.size + 5 from rfl, show w.heap.size + 5 + 1 = w.heap.size + 6 from rfl, show w.heap.size + 6 + 1 = w.heap.size + 7 from rfl]
 have hwe := HW.out
 simp only [S] at hwe
 rw [hwe]
 clear hwe
 refine (callsIn_wide.2 HCAN.out).mono ?_
 rintro e w1 ⟨v1, l1, rfl, hr1, hp1, hn1, b1, _, _⟩
 rw [HPL.out, Rc.k5_canon] at hp1
 obtain ⟨x, y, rfl, hx, hy⟩ : ∃ x y, l1 = [x, y] /\ x.1.2 = Rc.kc /\ y.1.2 = Rc.kd := by
  match l1, hp1 with
  | [x, y], h => simp only [plE, List.map_cons, List.map_nil, List.cons.injEq, and_true] at h; exact ⟨x, y, rfl, h.1, h.2⟩
  | [], h => simp [plE] at h
  | [_], h => simp [plE] at h
  | _ :: _ :: _ :: _, h => simp [plE] at h
 obtain ⟨o1, c1, rfl⟩ : ∃ o cap, v1 = .slice o 2 cap := by obtain ⟨_, o, cap, h, _⟩ := hr1; exact ⟨o, cap, by rw [h]; rfl⟩
 obtain ⟨p0, n0, q0, p1, n1, q1, p2, n2, q2, p3, n3, q3, p4, n4, q4, ex⟩ := x.cells
 obtain ⟨r0, m0, t0, r1, m1, t1, r2, m2, t2, r3, m3, t3, r4, m4, t4, ey⟩ := y.cells
 have hox := x.ownerRd ex
 have hoy := y.ownerRd ey
 rw [hx] at hox ex
 rw [hy] at hoy ey
 obtain rfl : n0 = 0 := by obtain ⟨_, _, e, _⟩ := hox; cases e; rfl
 obtain rfl : m0 = 1 := by obtain ⟨_, _, e, _⟩ := hoy; cases e; rfl
 have HR1 := Lib.hid hr1.el
 obtain ⟨ga, rfl, a0, a1, a2, a3, a4, a5, a6⟩ := HR1.out _ (Below.refl _ _) 0 (by simp) _ _ _ _ _ _ _ ex
 obtain ⟨gb, hgb, b0, b1', b2, b3, b4, b5, b6⟩ := HR1.out _ (Below.refl _ _) 1 (by simp) _ _ _ _ _ _ _ ey
 cases hgb
 obtain ⟨yo, hyo⟩ : ∃ yo, r0 = some yo := by obtain ⟨o, c, e, _, _, _, h⟩ := hoy; cases e; obtain ⟨a, ha, _⟩ := h 0 (by decide); exact ⟨a, ha⟩
 subst hyo
 have d0 : w1.cell? yo = some (S [65]) := by
  obtain ⟨o, c, e, _, _, _, h⟩ := hoy.below b1
  cases e
  obtain ⟨a, ha, hc⟩ := h 0 (by decide)
  cases ha
  rw [show yo.add 0 = yo from rfl] at hc; exact hc
 have HB1 := Lib.hid b1
 have HRD1 := Lib.hid hr1
 have HXY := Lib.hid (And.intro hx hy)
 clear HCAN hp1 hn1 b1 ex ey hox hoy hr1 hx hy HPL HR1 a2 a3 a4 a5 a6 b2 b3 b4 b5 b6
 rw [show ga.add (0 * 7) = ga from rfl] at a0 a1
 rw [show ga.add (1 * 7) = ⟨ga.block, ga.off + 7, none⟩ by simp [Addr.add]] at b0 b1'
 have f0 : w1.cell? ⟨w.heap.size + 2, 0, none⟩ = some _ := (M2.out.below HB1.out).cell 0
 have f1 : w1.cell? ⟨w.heap.size + 2, 1, none⟩ = some _ := (M2.out.below HB1.out).cell 1
 have f2 : w1.cell? ⟨w.heap.size + 2, 2, none⟩ = some _ := (M2.out.below HB1.out).cell 2
 have f3 : w1.cell? ⟨w.heap.size + 2, 3, none⟩ = some _ := (M2.out.below HB1.out).cell 3
 have f4 : w1.cell? ⟨w.heap.size + 2, 4, none⟩ = some _ := (M2.out.below HB1.out).cell 4
 have f5 : w1.cell? ⟨w.heap.size + 2, 5, none⟩ = some _ := (M2.out.below HB1.out).cell 5
 have f6 : w1.cell? ⟨w.heap.size + 2, 6, none⟩ = some _ := (M2.out.below HB1.out).cell 6
 have g0 : w1.cell? ⟨w.heap.size + 4, 0, none⟩ = some _ := (M4.out.below HB1.out).cell 0
 have g1 : w1.cell? ⟨w.heap.size + 4, 1, none⟩ = some _ := (M4.out.below HB1.out).cell 1
 have g2 : w1.cell? ⟨w.heap.size + 4, 2, none⟩ = some _ := (M4.out.below HB1.out).cell 2
 have g3 : w1.cell? ⟨w.heap.size + 4, 3, none⟩ = some _ := (M4.out.below HB1.out).cell 3
 have g4 : w1.cell? ⟨w.heap.size + 4, 4, none⟩ = some _ := (M4.out.below HB1.out).cell 4
 have g5 : w1.cell? ⟨w.heap.size + 4, 5, none⟩ = some _ := (M4.out.below HB1.out).cell 5
 have g6 : w1.cell? ⟨w.heap.size + 4, 6, none⟩ = some _ := (M4.out.below HB1.out).cell 6
 gi_wp2_with fail
 clear f0 f1 f2 f3 f4 f5 f6 g0 g1 g2 g3 g4 g5 g6 a0 a1 b0 b1' d0
 refine (callsIn_wide.2 (recSame_any [.slice (some ⟨w.heap.size, 0, none⟩) 1 1, .int .u32 5, .int .i64 1, .slice none 0 0, .slice none 0 0, .slice none 0 0, .slice (some ⟨w.heap.size + 1, 0, none⟩) 4 4] [.slice (some ⟨w.heap.size + 3, 0, none⟩) 1 1, .int .u32 3, .int .i64 1, .slice none 0 0, .slice none 0 0, .slice none 0 0, .slice (some ⟨w.heap.size + 1, 0, none⟩) 4 4] Rc.ka Rc.kb w1 (HEA.out.1.below HB1.out) (HEB.out.1.below HB1.out) HEA.out.2 HEB.out.2)).mono ?_
 rintro e w2 ⟨rfl, b2⟩
 rw [show (Rc.cmp Rc.ka Rc.kb == 0) = true by decide +kernel]
 have HB2 := Lib.hid (below5 HB1.out b2)
 have HC2 := Lib.hid b2
 clear b2
 have f0 : w2.cell? ⟨w.heap.size + 6, 0, none⟩ = some _ := (M6.out.below HB2.out).cell 0
 have f1 : w2.cell? ⟨w.heap.size + 6, 1, none⟩ = some _ := (M6.out.below HB2.out).cell 1
 have f2 : w2.cell? ⟨w.heap.size + 6, 2, none⟩ = some _ := (M6.out.below HB2.out).cell 2
 have f3 : w2.cell? ⟨w.heap.size + 6, 3, none⟩ = some _ := (M6.out.below HB2.out).cell 3
 have f4 : w2.cell? ⟨w.heap.size + 6, 4, none⟩ = some _ := (M6.out.below HB2.out).cell 4
 have f5 : w2.cell? ⟨w.heap.size + 6, 5, none⟩ = some _ := (M6.out.below HB2.out).cell 5
 have f6 : w2.cell? ⟨w.heap.size + 6, 6, none⟩ = some _ := (M6.out.below HB2.out).cell 6
 have g0 : w2.cell? ⟨w.heap.size + 2, 0, none⟩ = some _ := (M2.out.below HB2.out).cell 0
 have g1 : w2.cell? ⟨w.heap.size + 2, 1, none⟩ = some _ := (M2.out.below HB2.out).cell 1
 have g2 : w2.cell? ⟨w.heap.size + 2, 2, none⟩ = some _ := (M2.out.below HB2.out).cell 2
 have g3 : w2.cell? ⟨w.heap.size + 2, 3, none⟩ = some _ := (M2.out.below HB2.out).cell 3
 have g4 : w2.cell? ⟨w.heap.size + 2, 4, none⟩ = some _ := (M2.out.below HB2.out).cell 4
 have g5 : w2.cell? ⟨w.heap.size + 2, 5, none⟩ = some _ := (M2.out.below HB2.out).cell 5
 have g6 : w2.cell? ⟨w.heap.size + 2, 6, none⟩ = some _ := (M2.out.below HB2.out).cell 6
 gi_wp2_with fail
 clear f0 f1 f2 f3 f4 f5 f6 g0 g1 g2 g3 g4 g5 g6
 refine (callsIn_wide.2 (recCompare_any [.slice (some ⟨w.heap.size + 5, 0, none⟩) 0 0, .int .u32 3, .int .i64 1, .slice none 0 0, .slice none 0 0, .slice none 0 0, .slice (some ⟨w.heap.size + 1, 0, none⟩) 4 4] [.slice (some ⟨w.heap.size, 0, none⟩) 1 1, .int .u32 5, .int .i64 1, .slice none 0 0, .slice none 0 0, .slice none 0 0, .slice (some ⟨w.heap.size + 1, 0, none⟩) 4 4] Rc.kc Rc.ka w2 (HEC.out.1.below HB2.out) (HEA.out.1.below HB2.out) HEC.out.2 HEA.out.2)).mono ?_
 rintro e w3 ⟨rfl, b3⟩
 rw [show Rc.cmp Rc.kc Rc.ka = -1 by decide +kernel]
 have HB3 := Lib.hid (below5 HB2.out b3)
 have HC3 := Lib.hid (below5 HC2.out b3)
 clear b3
 have f0 : w3.cell? ⟨w.heap.size + 2, 0, none⟩ = some _ := (M2.out.below HB3.out).cell 0
 have f1 : w3.cell? ⟨w.heap.size + 2, 1, none⟩ = some _ := (M2.out.below HB3.out).cell 1
 have f2 : w3.cell? ⟨w.heap.size + 2, 2, none⟩ = some _ := (M2.out.below HB3.out).cell 2
 have f3 : w3.cell? ⟨w.heap.size + 2, 3, none⟩ = some _ := (M2.out.below HB3.out).cell 3
 have f4 : w3.cell? ⟨w.heap.size + 2, 4, none⟩ = some _ := (M2.out.below HB3.out).cell 4
 have f5 : w3.cell? ⟨w.heap.size + 2, 5, none⟩ = some _ := (M2.out.below HB3.out).cell 5
 have f6 : w3.cell? ⟨w.heap.size + 2, 6, none⟩ = some _ := (M2.out.below HB3.out).cell 6
 gi_wp2_with fail
 clear f0 f1 f2 f3 f4 f5 f6
 refine (callsIn_wide.2 (recTextA_any (some ⟨w.heap.size, 0, none⟩) 1 [[65]] 5 none none none 0 0 0 ⟨w.heap.size + 1, 0, none⟩ 4 [1, 2, 3, 4] w3 (HT.out.below (below5 HBW.out HB3.out)) (by decide) rfl (Sl.below HRAW.out HB3.out) (HOA.out.below HB3.out) (nb_ok (by decide)))).mono ?_
 rintro e w4 ⟨rfl, b4⟩
 rw [Rc.k5_text]
 have HB4 := Lib.hid (below5 HB3.out b4)
 have HC4 := Lib.hid (below5 HC3.out b4)
 clear b4
 have f0 : w4.cell? ⟨w.heap.size + 2, 0, none⟩ = some _ := (M2.out.below HB4.out).cell 0
 have f1 : w4.cell? ⟨w.heap.size + 2, 1, none⟩ = some _ := (M2.out.below HB4.out).cell 1
 have f2 : w4.cell? ⟨w.heap.size + 2, 2, none⟩ = some _ := (M2.out.below HB4.out).cell 2
 have f3 : w4.cell? ⟨w.heap.size + 2, 3, none⟩ = some _ := (M2.out.below HB4.out).cell 3
 have f4 : w4.cell? ⟨w.heap.size + 2, 4, none⟩ = some _ := (M2.out.below HB4.out).cell 4
 have f5 : w4.cell? ⟨w.heap.size + 2, 5, none⟩ = some _ := (M2.out.below HB4.out).cell 5
 have f6 : w4.cell? ⟨w.heap.size + 2, 6, none⟩ = some _ := (M2.out.below HB4.out).cell 6
 gi_wp2_with fail
 clear f0 f1 f2 f3 f4 f5 f6
 refine (callsIn_wide.2 (recCheckA_any (some ⟨w.heap.size, 0, none⟩) 1 [[65]] 5 none none none 0 0 0 ⟨w.heap.size + 1, 0, none⟩ 4 w4 (by decide) (HOA.out.below HB4.out) (nb_ok (by decide)) (by decide +kernel))).mono ?_
 rintro e w5 ⟨rfl, b5⟩
 have HB5 := Lib.hid (below5 HB4.out b5)
 have HC5 := Lib.hid (below5 HC4.out b5)
 clear b5
 gi_wp2_with fail
 have HS1 : Hid (Calls Tryz.prog 15 #[.slice (some ga) 2 c1, .slice (some ga) 2 c1] w5 (Gives (.bool true) w5)) := by
  have h := sameRow_any (.slice (some ga) 2 c1) (.slice (some ga) 2 c1) ([x, y].map (El.up HB5.out)) ([x, y].map (El.up HB5.out)) (by rw [up_fst]; exact HRD1.out.kept HC5.out) (by rw [up_fst]; exact HRD1.out.kept HC5.out) (by simp) (by simp)
  rw [up_pl, show plE [x, y] = [Rc.kc, Rc.kd] by simp only [plE, List.map_cons, List.map_nil, HXY.out.1, HXY.out.2]] at h
  rw [show Rc.sameRow [Rc.kc, Rc.kd] [Rc.kc, Rc.kd] = true by decide +kernel] at h
  exact h
 refine (callsIn_wide.2 HS1.out).mono ?_
 rintro e w6 ⟨rfl, b6⟩
 have HB6 := Lib.hid (below5 HB5.out b6)
 have HC6 := Lib.hid (below5 HC5.out b6)
 clear b6 HS1
 have HS2 : Hid (Calls Tryz.prog 15 #[.slice (some ga) 2 c1, .slice (some ga) 1 c1] w6 (Gives (.bool false) w6)) := by
  have h := sameRow_any (.slice (some ga) 2 c1) (.slice (some ga) 1 c1) ([x, y].map (El.up HB6.out)) ([x].map (El.up HB6.out)) (by rw [up_fst]; exact HRD1.out.kept HC6.out) (by rw [up_fst]; exact RecsRd.kept (RecsRd.init (l := [x, y]) HRD1.out 1 (by simp)) HC6.out) (by simp) (by simp)
  rw [up_pl, up_pl, show plE [x, y] = [Rc.kc, Rc.kd] by simp only [plE, List.map_cons, List.map_nil, HXY.out.1, HXY.out.2], show plE [x] = [Rc.kc] by simp only [plE, List.map_cons, List.map_nil, HXY.out.1]] at h
  rw [show Rc.sameRow [Rc.kc, Rc.kd] [Rc.kc] = false by decide +kernel] at h
  exact h
 have hcap : 1 <= c1 := by obtain ⟨_, o, c, e, h1, _⟩ := HRD1.out; cases e; simp at h1; omega
 have hcz : (1 : Int) <= (c1 : Int) := by omega
 gi_wp2_with fail
 refine (callsIn_wide.2 HS2.out).mono ?_
 rintro e w7 ⟨rfl, b7⟩
 have HB7 := Lib.hid (below5 HBW.out (below5 HB6.out b7))
 clear b7 HS2
 gi_wp2_with fail
 go_ret
 exact ⟨rfl, HB7.out⟩
end Go.Proofs.YtgmbefolgppmdaaGreatDoor
