/- The words of errors, flaws, edges and ends. -/
import Derived.Test.YtjhibbjafjhhjaaDoorKTxC
import Derived.Test.YtjhibbjafjhhjaaDoorKNmB
namespace Go.Proofs.YtjhibbjafjhhjaaDoor
open Go.RowKit Go.Shelf
set_option maxRecDepth 100000
namespace Tt
def errs : List (List UInt8) := [[111, 107], [97, 114, 103], [102, 111, 114, 109], [108, 111, 110, 103], [110, 97, 109, 101], [116, 119, 105, 99, 101], [116, 121, 112, 101], [111, 118, 101, 114], [101, 109, 112, 116, 121], [99, 121, 99, 108, 101], [100, 101, 101, 112], [109, 97, 110, 121], [122, 111, 110, 101]]
def flaws : List (List UInt8) := [[], [110, 111, 115, 111, 97], [109, 97, 110, 121, 115, 111, 97], [110, 111, 110, 115], [115, 116, 114, 97, 110, 103, 101], [109, 105, 120, 101, 100], [109, 97, 110, 121, 110, 97, 109, 101], [104, 105, 100, 100, 101, 110], [99, 111, 118, 101, 114, 101, 100], [119, 105, 108, 100, 110, 115]]
def edges : List (List UInt8) := [[], [110, 115, 100, 105, 102, 102, 101, 114, 115], [103, 108, 117, 101, 100, 105, 102, 102, 101, 114, 115], [110, 111, 103, 108, 117, 101], [110, 111, 99, 104, 105, 108, 100]]
def ends : List (List UInt8) := [[103, 111, 105, 110, 103], [102, 111, 117, 110, 100], [101, 109, 112, 116, 121], [109, 105, 115, 115, 105, 110, 103], [116, 111, 111, 108, 111, 110, 103], [114, 101, 102, 117, 115, 101, 100], [108, 97, 109, 101], [108, 111, 111, 112], [102, 97, 114], [103, 111, 110, 101]]
theorem errs_len : ∀ s ∈ errs, s.length <= 10 := by decide
theorem flaws_len : ∀ s ∈ flaws, s.length <= 20 := by decide
theorem edges_len : ∀ s ∈ edges, s.length <= 20 := by decide
theorem ends_len : ∀ s ∈ ends, s.length <= 20 := by decide
end Tt
set_option maxHeartbeats 1000000 in
theorem errWord_any (k : Nat) (hk : k < 13) (w : World) : Calls Tryd.prog 54 #[.int .i64 (k : Int)] w (Gives (S (Tt.errs[k]'hk)) w) := by
 have h : k = 0 \/ k = 1 \/ k = 2 \/ k = 3 \/ k = 4 \/ k = 5 \/ k = 6 \/ k = 7 \/ k = 8 \/ k = 9 \/ k = 10 \/ k = 11 \/ k = 12 := by omega
 rcases h with rfl | rfl | rfl | rfl | rfl | rfl | rfl | rfl | rfl | rfl | rfl | rfl | rfl
 all_goals
  refine (callsIn_wide (n := 0)).1 ?_
  refine callsIn_of_wp Tryd.func54 rfl trivial ?_ rfl
  simp only [Tryd.ntmps54, List.size_toArray, List.length_cons, List.length_nil, Nat.reduceAdd, Nat.reduceSub, Array.replicate_succ, Array.replicate_zero, List.push_toArray, List.append_toArray, List.nil_append, List.cons_append]
  gi_wp2_with fail
  go_ret
  exact ⟨rfl, Below.refl _ _⟩
set_option maxHeartbeats 1000000 in
theorem refErrWord_any (k : Nat) (hk : k < 13) (w : World) : Calls Tryd.prog 28 #[.int .i64 (k : Int)] w (Gives (S (Tt.errs[k]'hk)) w) := by
 have h : k = 0 \/ k = 1 \/ k = 2 \/ k = 3 \/ k = 4 \/ k = 5 \/ k = 6 \/ k = 7 \/ k = 8 \/ k = 9 \/ k = 10 \/ k = 11 \/ k = 12 := by omega
 rcases h with rfl | rfl | rfl | rfl | rfl | rfl | rfl | rfl | rfl | rfl | rfl | rfl | rfl
 all_goals
  refine (callsIn_wide (n := 0)).1 ?_
  refine callsIn_of_wp Tryd.func28 rfl trivial ?_ rfl
  simp only [Tryd.ntmps28, List.size_toArray, List.length_cons, List.length_nil, Nat.reduceAdd, Nat.reduceSub, Array.replicate_succ, Array.replicate_zero, List.push_toArray, List.append_toArray, List.nil_append, List.cons_append]
  gi_wp2_with fail
  go_ret
  exact ⟨rfl, (Below.refl _ _).alloc (Nat.le_refl _) _⟩
set_option maxHeartbeats 1000000 in
theorem flawWord_any (k : Nat) (hk : k < 10) (w : World) : Calls Tryd.prog 48 #[.int .i64 (k : Int)] w (Gives (S (Tt.flaws[k]'hk)) w) := by
 have h : k = 0 \/ k = 1 \/ k = 2 \/ k = 3 \/ k = 4 \/ k = 5 \/ k = 6 \/ k = 7 \/ k = 8 \/ k = 9 := by omega
 rcases h with rfl | rfl | rfl | rfl | rfl | rfl | rfl | rfl | rfl | rfl
 all_goals
  refine (callsIn_wide (n := 0)).1 ?_
  refine callsIn_of_wp Tryd.func48 rfl trivial ?_ rfl
  simp only [Tryd.ntmps48, List.size_toArray, List.length_cons, List.length_nil, Nat.reduceAdd, Nat.reduceSub, Array.replicate_succ, Array.replicate_zero, List.push_toArray, List.append_toArray, List.nil_append, List.cons_append]
  gi_wp2_with fail
  go_ret
  exact ⟨rfl, (Below.refl _ _).alloc (Nat.le_refl _) _⟩
set_option maxHeartbeats 1000000 in
theorem edgeWord_any (k : Nat) (hk : k < 5) (w : World) : Calls Tryd.prog 50 #[.int .i64 (k : Int)] w (Gives (S (Tt.edges[k]'hk)) w) := by
 have h : k = 0 \/ k = 1 \/ k = 2 \/ k = 3 \/ k = 4 := by omega
 rcases h with rfl | rfl | rfl | rfl | rfl
 all_goals
  refine (callsIn_wide (n := 0)).1 ?_
  refine callsIn_of_wp Tryd.func50 rfl trivial ?_ rfl
  simp only [Tryd.ntmps50, List.size_toArray, List.length_cons, List.length_nil, Nat.reduceAdd, Nat.reduceSub, Array.replicate_succ, Array.replicate_zero, List.push_toArray, List.append_toArray, List.nil_append, List.cons_append]
  gi_wp2_with fail
  go_ret
  exact ⟨rfl, (Below.refl _ _).alloc (Nat.le_refl _) _⟩
set_option maxHeartbeats 1000000 in
theorem endWord_any (k : Nat) (hk : k < 10) (w : World) : Calls Tryd.prog 52 #[.int .i64 (k : Int)] w (Gives (S (Tt.ends[k]'hk)) w) := by
 have h : k = 0 \/ k = 1 \/ k = 2 \/ k = 3 \/ k = 4 \/ k = 5 \/ k = 6 \/ k = 7 \/ k = 8 \/ k = 9 := by omega
 rcases h with rfl | rfl | rfl | rfl | rfl | rfl | rfl | rfl | rfl | rfl
 all_goals
  refine (callsIn_wide (n := 0)).1 ?_
  refine callsIn_of_wp Tryd.func52 rfl trivial ?_ rfl
  simp only [Tryd.ntmps52, List.size_toArray, List.length_cons, List.length_nil, Nat.reduceAdd, Nat.reduceSub, Array.replicate_succ, Array.replicate_zero, List.push_toArray, List.append_toArray, List.nil_append, List.cons_append]
  gi_wp2_with fail
  go_ret
  exact ⟨rfl, (Below.refl _ _).alloc (Nat.le_refl _) _⟩
end Go.Proofs.YtjhibbjafjhhjaaDoor
