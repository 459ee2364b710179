/- label.Fold and the reference's. -/
import Derived.Test.YtikibmeopndncaaLabA
namespace Go.Proofs.Ytikibmeopndncaa
open Go.RowKit Go.Shelf
set_option maxRecDepth 100000
attribute [local go_sem] Oper.semAt_some

set_option maxHeartbeats 1000000 in
theorem refFold_any (l : List UInt8) (w : World) (hl : l.length ≤ 1000000) :
    Calls Try.prog 60 #[S l] w fun e w' => e = .returned (S (Lb.fold l)) ∧ Below w.heap.size w w' := by
  obtain ⟨cap, W1, hrun, hrow, hb1, hs1⟩ := bytes_of l w
  go_enter Try.func60, Try.ntmps60
  go_wp2
  clear hrun
  go_loopw [4] (fun i wr => ∃ k : Nat, k ≤ l.length ∧ i = .int .i64 k ∧ ByteRow w.heap.size (Lb.foldTo l k) wr ∧ Below w.heap.size w wr) (fun i _ => l.length - (intOf i).toNat)
  case atStart => exact ⟨0, by omega, rfl, by rw [Lb.foldTo_zero]; exact hrow, hb1⟩
  case round =>
    obtain ⟨k, hk, rfl, hr, hb⟩ := hrel
    by_cases hlt : k < l.length
    · have hlen := Lb.foldTo_length l k
      have hc := hr.cell k (by omega)
      rw [Lb.foldTo_get l k hlt] at hc
      have hf := hr.frozen k (by omega)
      by_cases h1 : 65 ≤ l[k].toNat ∧ l[k].toNat ≤ 90
      · have HS := Lib.hid (Lb.foldTo_succ l k hlt)
        have HN := Lib.hid (Lb.low_nat l[k] h1)
        obtain ⟨h11, h12⟩ : 65 ≤ (l[k].toNat : Int) ∧ (l[k].toNat : Int) ≤ 90 := by omega
        clear h1
        go_wp2
        have hs := hr.set k (Lb.low l[k])
        rw [HN.out, ← HS.out] at hs
        exact ⟨⟨k + 1, by omega, by go_num, hs, hb.setCell (p := ⟨w.heap.size, k, none⟩) (Nat.le_refl _) _⟩, by simp [intOf]; omega⟩
      · have HS := Lib.hid (Lb.foldTo_same l k hlt (Lb.low_not _ h1))
        have hH := Lib.hid h1
        clear h1
        go_wp2
        all_goals first
          | (exfalso; have h2 : 65 ≤ (l[k].toNat : Int) := by assumption
             have h3 : (l[k].toNat : Int) ≤ 90 := by assumption
             exact hH.out ⟨by omega, by omega⟩)
          | exact ⟨⟨k + 1, by omega, by go_num, by rw [HS.out]; exact hr, hb⟩, by simp [intOf]; omega⟩
    · obtain rfl : l.length = k := by omega
      have hlen := Lb.foldTo_length l l.length
      rw [Lb.foldTo_all] at hr hlen
      have hcv := conv_row _ _ cap _ hr
      rw [hlen] at hcv
      go_wp2
      go_ret
      exact ⟨rfl, hb⟩

def foldI (B : Nat) (cap : Nat) (w : World) (l : List UInt8) (k : Nat) (W : World) : Prop :=
  k ≤ l.length ∧ ByteRow B (Lb.foldTo l k) W ∧ Box (B + 1) 84 (.slice (some ⟨B, 0, none⟩) l.length cap) W ∧ Box (B + 2) 9 (S l) W ∧ Below B w W ∧ B + 3 ≤ W.heap.size

theorem foldI_put {B cap w l L} (hL : B ≤ L) (k : Nat) (A : World) (r : Loop) (o : Obj) (h : foldI B cap w l k A) (hr : A.heap[L]? = some (.loop r)) : foldI B cap w l k (A.putObj L o) := by
  obtain ⟨h1, h2, h3, h4, h5, h6⟩ := h
  exact ⟨h1, h2.put hr o, h3.put hr o, h4.put hr o, below_put h5 hL hr (by omega) o, by simpa using h6⟩

set_option maxRecDepth 10000 in
set_option maxHeartbeats 1000000 in
theorem fold_any (l : List UInt8) (w : World) (hl : l.length ≤ 1000000) :
    Calls Try.prog 59 #[S l] w fun e w' => e = .returned (S (Lb.fold l)) ∧ Below w.heap.size w w' := by
  obtain ⟨cap, W1, hrun, hrow, hb1, hs1⟩ := bytes_of l w
  refine (callsIn_wide (n := 0)).1 ?_
  refine callsIn_of_wp_marks Try.func59 rfl trivial ?_ rfl
  simp only [Try.ntmps59, List.size_toArray, List.length_cons, List.length_nil, Nat.reduceAdd, Nat.reduceSub, Array.replicate_succ, Array.replicate_zero, List.push_toArray, List.append_toArray, List.nil_append, List.cons_append]
  gi_wp2_with (gi_at_call 84; refine (callsIn_wide.2 (octets_any l _)).mono ?_; rintro e w' ⟨rfl, rfl⟩)
  clear hrun
  have hx1 := Box.new W1 84 (.slice (some ⟨w.heap.size, 0, none⟩) l.length cap)
  have hx2 := Box.new (W1.alloc (.cells #[.slice (some ⟨w.heap.size, 0, none⟩) l.length cap] 84)) 9 (S l)
  rw [World.size_alloc] at hx2
  rw [hs1] at hx1 hx2
  obtain ⟨W0, hW0, hI0, hs0⟩ : ∃ W0, (W1.alloc (.cells #[.slice (some ⟨w.heap.size, 0, none⟩) l.length cap] 84)).alloc (.cells #[S l] 9) = W0 ∧ foldI w.heap.size cap w l 0 W0 ∧ W0.heap.size = w.heap.size + 3 :=
    ⟨_, rfl, ⟨by omega, by rw [Lb.foldTo_zero]; exact (hrow.alloc _).alloc _, hx1.alloc _, hx2, (hb1.alloc (by omega) _).alloc (by simp; omega) _, by simp; omega⟩, by simp; omega⟩
  rw [hW0]
  clear hW0 hx1 hx2 hrow hb1 hs1
  refine rf_outer rfl (enters_of Try.func100 (by kernel_rfl) rfl) (octets1_iter (w.heap.size + 2) l hl)
    (fun A B h => by subst h; exact KeepsOthers.refl _) sameCell.trans (fun A o => sameCell.put (by omega) A o)
    (fun _ _ _ _ ⟨_, h, _⟩ => by subst h; rfl)
    (foldI w.heap.size cap w l) (fun _ _ => False) (fun _ _ _ h e => by subst e; exact h) (fun _ _ _ h _ => h)
    (foldI_put (by omega)) (fun _ _ _ _ h _ => h)
    (fun r => ?start) (fun r => ?pre) ?round ?done (fun _ _ h => h.elim)
  case start =>
    obtain ⟨h1, h2, h3, h4, h5, h6⟩ := hI0
    exact ⟨h1, (h2.alloc _).alloc _, (h3.alloc _).alloc _, (h4.alloc _).alloc _, (h5.alloc (by omega) _).alloc (by simp; omega) _, by simp; omega⟩
  case pre => exact ((hI0.2.2.2.1.alloc _).alloc _).cell
  case round =>
    rintro n k k' v W hI ⟨h, rfl, rfl⟩
    gi_wp2
    refine rfNext_same (Eq.refl _) hI (foldI_put (by omega)) ?_
    clear hI hI0
    rintro W r rfl hr ⟨h1, h2, h3, h4, h5, h6⟩
    have hlen := Lb.foldTo_length l k
    have hc := h2.cell k (by omega)
    rw [Lb.foldTo_get l k h] at hc
    have hf := h2.frozen k (by omega)
    have hcb := h3.cell
    have hc255 : ((l[k].toNat : Nat) : Int) ≤ 255 := by have := l[k].toNat_lt; omega
    by_cases hm : 65 ≤ l[k].toNat ∧ l[k].toNat ≤ 90
    · have HS := Lib.hid (Lb.foldTo_succ l k h)
      have HN := Lib.hid (Lb.low_nat l[k] hm)
      obtain ⟨h11, h12⟩ : 65 ≤ (l[k].toNat : Int) ∧ (l[k].toNat : Int) ≤ 90 := by omega
      clear hm
      gi_wp2
      have hs := h2.set k (Lb.low l[k])
      rw [HN.out, ← HS.out] at hs
      rw [show ((l[k].toNat : Int) + 97 - 65) = ((l[k].toNat + 32 : Nat) : Int) by omega]
      have hx := h4.setOther (c := w.heap.size) (o := k) (by omega) (.int .u8 ((l[k].toNat + 32 : Nat) : Int))
      exact ⟨KeepsOthers.setCell _ _ _, h4.same hx, h, hs, h3.setOther (by omega) _, hx, h5.setCell (p := ⟨w.heap.size, k, none⟩) (Nat.le_refl _) _, by simpa [World.setCell] using h6⟩
    · have HS := Lib.hid (Lb.foldTo_same l k h (Lb.low_not _ hm))
      have hm' : ¬ (65 ≤ (l[k].toNat : Int)) ∨ 90 < (l[k].toNat : Int) := by omega
      clear hm
      have hH := Lib.hid hm'
      clear hm'
      gi_wp2
      all_goals first
        | (exfalso; have h2 : 65 ≤ (l[k].toNat : Int) := by assumption
           have h3 : (l[k].toNat : Int) ≤ 90 := by assumption
           have := hH.out; omega)
        | exact ⟨KeepsOthers.refl _, Eq.refl _, h, by rw [HS.out]; exact h2, h3, h4, h5, h6⟩
  case done =>
    rintro k W rfl ⟨h1, h2, h3, h4, h5, h6⟩ hK
    rw [hs0] at hK ⊢
    have hlen := Lb.foldTo_length l l.length
    rw [Lb.foldTo_all] at h2 hlen
    have hcv := conv_row _ _ cap _ h2
    rw [hlen] at hcv
    have hcb := h3.cell
    gi_wp2
    refine ⟨by simp, .inl ⟨_, _, rfl, run_takeDeferred hK, ?_⟩⟩
    exact ⟨_, results_tmp rfl _ _ _, rfl, h5.grown (grownBy_putObj' _ _ _) (by omega) (fun k e => by have := Option.some.inj e; omega)⟩
end Go.Proofs.Ytikibmeopndncaa
