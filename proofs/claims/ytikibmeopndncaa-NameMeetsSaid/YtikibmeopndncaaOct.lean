/- label.octets: its closure's contract as an iterator. -/
import Derived.Test.YtikibmeopndncaaBase
namespace Go.Proofs.Ytikibmeopndncaa
open Go.RowKit Go.Shelf
set_option maxRecDepth 100000
attribute [local go_sem] Oper.semAt_some

set_option maxHeartbeats 400000 in
theorem octets_any (s : List UInt8) (w : World) :
    Calls Try.prog 84 #[S s] w fun e w' => e = .returned (.func (.func 100) #[] #[.pointer (some ⟨w.heap.size, 0, none⟩)]) ∧ w.alloc (.cells #[S s] 9) = w' := by
  go_enter Try.func84, Try.ntmps84
  go_wp2
  go_ret
  exact ⟨rfl, rfl⟩

def octY (s : List UInt8) (k : Nat) (_ : World) (v : Array Value) (k' : Nat) : Prop := ∃ h : k < s.length, v = #[.int .i64 k, .int .u8 s[k].toNat] ∧ k' = k + 1

set_option maxHeartbeats 400000 in
theorem octets1_iter (b : Nat) (s : List UInt8) (hs : s.length ≤ 1000000) :
    Iter Try.prog 100 #[.pointer (some ⟨b, 0, none⟩)] (fun W => W.cell? ⟨b, 0, none⟩ = some (S s)) (fun A B => A = B) (sameCell b) (octY s) 0 (fun k => k = s.length) := by
  intro l J Jx W hpre _ _ hY h0
  refine callsIn_of_wp Try.func100 rfl trivial ?_ rfl
  simp only [Try.ntmps100, List.size_toArray, List.length_cons, List.length_nil, Nat.reduceAdd, Nat.reduceSub, Array.replicate_succ, Array.replicate_zero, List.push_toArray, List.append_toArray, List.nil_append, List.cons_append]
  gi_wp2
  gi_loopw [3] (fun p wr => ∃ k : Nat, k ≤ s.length ∧ p = .int .i64 k ∧ J k wr ∧ wr.cell? ⟨b, 0, none⟩ = some (S s)) (fun p _ => s.length - (intOf p).toNat)
  case atStart => exact ⟨0, by omega, rfl, h0, hpre⟩
  case round =>
    obtain ⟨k, hk, rfl, hJ, hc⟩ := hrel
    by_cases hlt : k < s.length
    · obtain ⟨fn, tmps, assign, body, hy, hR⟩ := hY k (k + 1) _ wr hJ ⟨hlt, rfl, rfl⟩
      gi_wp2
      refine hR.mono ?_
      rintro e W3 (⟨rfl, hJ3, hk3⟩ | ⟨rfl, hJx3⟩)
      · have hc3 : W3.cell? ⟨b, 0, none⟩ = some (S s) := Eq.trans hk3 hc
        gi_wp2
        go_roundw
        case rel => exact ⟨k + 1, by omega, by go_num, hJ3, hc3⟩
        case measure => simp [intOf]; omega
      · gi_wp2
        refine bodyPost_ret (results_none rfl _ _ _) rfl ?_
        exact ⟨⟨_, rfl⟩, .inr hJx3⟩
    · obtain rfl : s.length = k := by omega
      gi_wp2
      go_end0
      exact ⟨⟨_, rfl⟩, .inl ⟨_, rfl, hJ⟩⟩
end Go.Proofs.Ytikibmeopndncaa
