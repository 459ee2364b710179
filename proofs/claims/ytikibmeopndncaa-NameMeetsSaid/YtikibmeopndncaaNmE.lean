/- Names in words; octet by octet the same. -/
import Derived.Test.YtikibmeopndncaaNmD
namespace Go.Proofs.Ytikibmeopndncaa
open Go.RowKit Go.Shelf
set_option maxRecDepth 100000

theorem Nm.words_append (a b : List (List UInt8)) : Nm.words (a ++ b) = Nm.words a ++ Nm.words b := by
  induction a with
  | nil => rfl
  | cons x r ih => simp only [List.cons_append, Nm.words, ih, List.append_assoc]
theorem Nm.words_take (n : List (List UInt8)) (k : Nat) (h : k < n.length) : Nm.words (n.take (k + 1)) = Nm.words (n.take k) ++ (Lb.text n[k] ++ [46]) := by
  rw [List.take_succ_eq_append_getElem h, Nm.words_append]; simp [Nm.words]
theorem Nm.words_len (n : List (List UInt8)) (h : ∀ x ∈ n, x.length ≤ 1000) : (Nm.words n).length ≤ 4001 * n.length := by
  induction n with
  | nil => simp [Nm.words]
  | cons x r ih =>
    have h1 := ih (fun y hy => h y (List.mem_cons_of_mem _ hy))
    have h2 := h x (List.mem_cons_self ..)
    have h3 := Lb.text_len x
    simp only [Nm.words, List.length_append, List.length_cons]; omega
theorem NB.words {n} (h : NB n) : (Nm.words n).length ≤ 4001000 := by
  have := Nm.words_len n h.2; have := h.1; omega
theorem Nm.text_nil : Nm.text [] = [46] := rfl
theorem Nm.text_pos {n : List (List UInt8)} (h : n ≠ []) : Nm.text n = Nm.words n := by simp [Nm.text, h]

set_option maxHeartbeats 1000000 in
theorem refNameText_any (v : Value) (n : List (List UInt8)) (w : World) (hv : Rd v n w) (hn : NB n) :
    Calls Try.prog 23 #[v] w (Gives (S (Nm.text n)) w) := by
  obtain ⟨o, cap, rfl, h1, h2⟩ := hv.form
  have HC := Lib.hid hv.cells
  have n1 : (n.length : Int) ≤ 1000 := by have := hn.1; omega
  have GA := Lib.hid (show ∀ k (h : k < n.length), n[k].length ≤ 1000 from fun k h => hn.get h)
  have GW := Lib.hid (show ∀ k, (Nm.words (n.take k)).length ≤ 4001000 from fun k => (hn.take k).words)
  clear hv hn
  by_cases h0 : n = []
  · subst h0
    go_enter Try.func23, Try.ntmps23
    go_wp2
    go_ret
    exact ⟨rfl, Below.refl _ _⟩
  · have HT := Lib.hid (Nm.text_pos h0)
    have hl0 : ((n.length : Int) == 0) = false := by
      rw [beq_eq_false_iff_ne]; have := List.length_pos_iff.2 h0; omega
    clear h0
    go_enter Try.func23, Try.ntmps23
    go_wp2
    go_loopw [3, 4] (fun s i wr => ∃ k : Nat, k ≤ n.length ∧ s = S (Nm.words (n.take k)) ∧ i = .int .i64 k ∧ Below w.heap.size w wr) (fun _ i _ => n.length - (intOf i).toNat)
    case atStart => exact ⟨0, by omega, rfl, rfl, Below.refl _ _⟩
    case round =>
      obtain ⟨k, hk, rfl, rfl, hb⟩ := hrel
      by_cases hlt : k < n.length
      · obtain ⟨x, rfl, e1⟩ := HC.out _ hb k hlt
        have g2 := GA.out k hlt
        have g3 := GW.out k
        have g4 := Lb.text_len n[k]
        have HS := Lib.hid (Nm.words_take n k hlt)
        go_wp2_with fail
        refine (refText_any n[k] _ (by omega)).mono ?_
        rintro e w1 ⟨rfl, b1⟩
        go_wp2_with fail
        exact ⟨⟨k + 1, by omega, by rw [HS.out, append_S, append_S, List.append_assoc], by go_num, below5 hb b1⟩, by simp [intOf]; omega⟩
      · obtain rfl : k = n.length := by omega
        rw [List.take_length]
        go_wp2_with fail
        go_ret
        exact ⟨by rw [HT.out]; rfl, hb⟩

set_option maxHeartbeats 1000000 in
theorem nText_any (v : Value) (n : List (List UInt8)) (w : World) (hv : Rd v n w) (hn : NB n) :
    Calls Try.prog 21 #[v] w (Gives (S (Nm.text n)) w) := by
  obtain ⟨o, cap, rfl, h1, h2⟩ := hv.form
  have HC := Lib.hid hv.cells
  have n1 : (n.length : Int) ≤ 1000 := by have := hn.1; omega
  have GA := Lib.hid (show ∀ k (h : k < n.length), n[k].length ≤ 1000 from fun k h => hn.get h)
  have GW := Lib.hid (show ∀ k, (Nm.words (n.take k)).length ≤ 4001000 from fun k => (hn.take k).words)
  clear hv hn
  by_cases h0 : n = []
  · subst h0
    go_enter Try.func21, Try.ntmps21
    go_wp2
    go_ret
    exact ⟨rfl, Below.refl _ _⟩
  · have HT := Lib.hid (Nm.text_pos h0)
    have hl0 : ((n.length : Int) == 0) = false := by
      rw [beq_eq_false_iff_ne]; have := List.length_pos_iff.2 h0; omega
    clear h0
    go_enter Try.func21, Try.ntmps21
    go_wp2
    go_loopw [11] (fun i wr => ∃ k : Nat, k ≤ n.length ∧ i = .int .i64 k ∧ Bld w.heap.size w.heap.size (Nm.words (n.take k)) wr ∧ Below w.heap.size w wr) (fun i _ => n.length - (intOf i).toNat)
    case atStart => exact ⟨0, by omega, rfl, Bld_new w, (Below.refl _ _).alloc (Nat.le_refl _) _⟩
    case round =>
      obtain ⟨k, hk, rfl, hbl, hb⟩ := hrel
      by_cases hlt : k < n.length
      · obtain ⟨x, rfl, e1⟩ := HC.out _ hb k hlt
        have g2 := GA.out k hlt
        have g3 := GW.out k
        have g4 := Lb.text_len n[k]
        have HS := Lib.hid (Nm.words_take n k hlt)
        go_wp2_with fail
        refine (text_any n[k] _ (by omega)).mono ?_
        rintro e w1 ⟨rfl, b1⟩
        have hb1 := below5 hb b1
        go_wp2_with fail
        rw [append_S]
        refine (wstring w.heap.size w.heap.size _ (Lb.text n[k] ++ [46]) _ (builderF_below hbl b1) (by omega) (by simp; omega) (by have := hb1.size; omega)).mono ?_
        rintro e w2 ⟨rfl, hbl2, hb2, _⟩
        go_wp2_with fail
        exact ⟨⟨k + 1, by omega, by go_num, by rw [HS.out]; exact hbl2, hb1.trans hb2⟩, by simp [intOf]; omega⟩
      · obtain rfl : k = n.length := by omega
        rw [List.take_length] at hbl
        go_wp2_with fail
        refine (Try.Builder_String_any_k w.heap.size w.heap.size (Nm.words n) _ hbl hb.size).mono ?_
        rintro e w1 ⟨rfl, _, hb1, _⟩
        go_wp2_with fail
        go_ret
        exact ⟨by rw [HT.out]; rfl, hb.trans hb1⟩

/-! ### octet by octet the same -/
def Nm.isTo (a b : List (List UInt8)) (k : Nat) : Prop := k ≤ a.length ∧ ∀ j (h : j < a.length) (h' : j < b.length), j < k → a[j] = b[j]
theorem Nm.isTo.step {a b k} (h : Nm.isTo a b k) (hk : k < a.length) (hk' : k < b.length) (hl : a[k] = b[k]) : Nm.isTo a b (k + 1) := by
  refine ⟨hk, fun j h1 h2 hj => ?_⟩
  by_cases e : j < k
  · exact h.2 j h1 h2 e
  · obtain rfl : j = k := by omega
    exact hl
theorem Nm.isTo.done {a b k} (h : Nm.isTo a b k) (hk : ¬ k < a.length) (hl : a.length = b.length) : (a == b) = true := by
  rw [beq_iff_eq]
  apply List.ext_getElem hl
  intro j h1 h2
  exact h.2 j h1 h2 (by omega)
theorem Nm.is_not {a b : List (List UInt8)} {k} (hk : k < a.length) (hk' : k < b.length) (hl : a[k] ≠ b[k]) : (a == b) = false := by
  rw [beq_eq_false_iff_ne]; intro hs; apply hl; subst hs; rfl
theorem Nm.is_len {a b : List (List UInt8)} (h : a.length ≠ b.length) : (a == b) = false := by
  rw [beq_eq_false_iff_ne]; intro hs; apply h; rw [hs]

set_option maxHeartbeats 1000000 in
theorem is_any (v u : Value) (a b : List (List UInt8)) (w : World) (hv : Rd v a w) (hu : Rd u b w) (ha : NB a) (hb : NB b) :
    Calls Try.prog 26 #[v, u] w (Gives (.bool (a == b)) w) := by
  obtain ⟨o, cap, rfl, h1, h2⟩ := hv.form
  obtain ⟨o', cap', rfl, h1', h2'⟩ := hu.form
  have HC := Lib.hid hv.cells
  have HD := Lib.hid hu.cells
  have na : (a.length : Int) ≤ 1000 := by have := ha.1; omega
  have nb : (b.length : Int) ≤ 1000 := by have := hb.1; omega
  clear hv hu ha hb
  have e0 : ∀ wr W : World, W.heap = wr.heap → ∀ p, W.cell? p = wr.cell? p := fun wr W h p => by unfold World.cell?; rw [h]
  by_cases hab : a.length = b.length
  · have hab' : ((a.length : Int) != b.length) = false := by simp [hab]
    have HAB := Lib.hid hab
    clear hab
    go_enter Try.func26, Try.ntmps26
    go_wp2
    go_loopw [5] (fun i wr => ∃ k : Nat, Nm.isTo a b k ∧ i = .int .i64 k ∧ Below w.heap.size w wr) (fun i _ => a.length - (intOf i).toNat)
    case atStart => exact ⟨0, ⟨by omega, fun j _ _ h => by omega⟩, rfl, Below.refl _ _⟩
    case round =>
      obtain ⟨k, hto, rfl, hb⟩ := hrel
      by_cases hlt : k < a.length
      · have hlt' : k < b.length := by have := HAB.out; omega
        obtain ⟨x, rfl, e1⟩ := HC.out _ hb k hlt
        obtain ⟨y, rfl, e2⟩ := HD.out _ hb k hlt'
        by_cases he : a[k] = b[k]
        · have HT := Lib.hid (hto.step hlt hlt' he)
          rw [← he] at e2
          clear hto he
          go_wp2_with fail
          go_quiet (fail)
          go_wp2_with fail
          exact ⟨⟨k + 1, HT.out, by go_num, below_drewN hb _⟩, by simp [intOf]; omega⟩
        · have HF := Lib.hid (Nm.is_not hlt hlt' he)
          have hs : (a[k] == b[k]) = false := by simpa using he
          clear hto he
          go_wp2_with fail
          go_quiet (fail)
          go_wp2_with fail
          go_ret
          exact ⟨by rw [HF.out]; rfl, below_drewN hb _⟩
      · have HF := Lib.hid (hto.done hlt HAB.out)
        go_wp2
        go_ret
        exact ⟨by rw [HF.out]; rfl, hb⟩
  · have hab' : ((a.length : Int) != b.length) = true := by simp; omega
    have HF := Lib.hid (Nm.is_len hab)
    go_enter Try.func26, Try.ntmps26
    go_wp2
    go_ret
    exact ⟨by rw [HF.out]; rfl, Below.refl _ _⟩
end Go.Proofs.Ytikibmeopndncaa
