/- label.Split. -/
import Derived.Test.YtikibmeopndncaaLabF
import Derived.Test.YtikibmeopndncaaRow
import Derived.Test.YtikibmeopndncaaLabSpec2
namespace Go.Proofs.Ytikibmeopndncaa
open Go.RowKit Go.Shelf
set_option maxRecDepth 100000
attribute [local go_sem] Oper.semAt_some

theorem Try.info_str : (Try.prog.info? 9).map (fun i => (i.zero, i.size, i.bytes)) = some (some (.string ⟨#[]⟩), 1, 16) := by kernel_rfl

/-- where the row of parts may lie -/
def SpR (B : Nat) (g : Nat) : Prop := g = B + 1 ∨ B + 8 ≤ g
/-- memory between two rounds of Split -/
structure SpM (B : Nat) (w : World) (s : List UInt8) (parts : List (List UInt8)) (fr : Nat) (taken : Bool) (W : World) : Prop where
  bs : Box B 9 (S s) W
  row : ∃ v, Box (B + 2) 40 v W ∧ Row (SpR B) 9 1 v parts.length (parts.map S) W
  fr : Box (B + 3) 3 (.int .i64 fr) W
  tk : Box (B + 4) 4 (.bool taken) W
  it : Box (B + 5) 9 (S s) W
  below : Below B w W
  size : B + 6 ≤ W.heap.size
theorem SpM.put {B w s parts fr taken L W} (h : SpM B w s parts fr taken W) (hL : B ≤ L) {r : Loop} (hr : W.heap[L]? = some (.loop r)) (o : Obj) : SpM B w s parts fr taken (W.putObj L o) := by
  obtain ⟨v, h1, h2⟩ := h.row
  exact ⟨h.bs.put hr o, ⟨v, h1.put hr o, h2.put hr o⟩, h.fr.put hr o, h.tk.put hr o, h.it.put hr o, below_put h.below hL hr (by have := h.size; omega) o, by simpa using h.size⟩
theorem SpM.alloc {B w s parts fr taken W} (h : SpM B w s parts fr taken W) (o : Obj) : SpM B w s parts fr taken (W.alloc o) := by
  obtain ⟨v, h1, h2⟩ := h.row
  exact ⟨h.bs.alloc o, ⟨v, h1.alloc o, h2.alloc o⟩, h.fr.alloc o, h.tk.alloc o, h.it.alloc o, h.below.alloc (by have := h.size; omega) o, by have := h.size; simp; omega⟩
theorem SpM.setTk {B w s parts fr taken W} (h : SpM B w s parts fr taken W) (b : Bool) : SpM B w s parts fr b (W.setCell ⟨B + 4, 0, none⟩ (.bool b)) := by
  obtain ⟨v, h1, h2⟩ := h.row
  exact ⟨h.bs.setOther (by omega) _, ⟨v, h1.setOther (by omega) _, h2.setOther (by unfold SpR; omega) _⟩, h.fr.setOther (by omega) _, h.tk.set _, h.it.setOther (by omega) _, h.below.setCell (p := ⟨B + 4, 0, none⟩) (show B ≤ B + 4 by omega) _, by have := h.size; simpa [World.setCell] using this⟩

def SplI (B : Nat) (w : World) (s : List UInt8) (k : Nat) (W : World) : Prop := ∃ parts fr taken, Lb.SpI s parts fr taken k ∧ parts.length ≤ k ∧ SpM B w s parts fr taken W
theorem SplI.put {B w s L} (hL : B ≤ L) (k : Nat) (A : World) (r : Loop) (o : Obj) (h : SplI B w s k A) (hr : A.heap[L]? = some (.loop r)) : SplI B w s k (A.putObj L o) := by
  obtain ⟨parts, fr, taken, h1, h2, h3⟩ := h
  exact ⟨parts, fr, taken, h1, h2, h3.put hL hr o⟩

def SplitR (s : List UInt8) (v : Value) (z : Int) (W : World) : Prop := match Lb.split s with
  | some parts => z = 0 ∧ RdStrs v parts W
  | none => z = 2 ∧ v = .slice none 0 0

set_option maxRecDepth 10000 in
set_option maxHeartbeats 2000000 in
theorem split_any (s : List UInt8) (w : World) (hs : s.length ≤ 1000000) :
    Calls Try.prog 91 #[S s] w fun e w' => ∃ v z, e = .returned (.tuple #[v, .int .i64 z]) ∧ SplitR s v z w' ∧ Below w.heap.size w w' := by
  refine (callsIn_wide (n := 0)).1 ?_
  refine callsIn_of_wp_marks Try.func91 rfl trivial ?_ rfl
  simp only [Try.ntmps91, List.size_toArray, List.length_cons, List.length_nil, Nat.reduceAdd, Nat.reduceSub, Array.replicate_succ, Array.replicate_zero, List.push_toArray, List.append_toArray, List.nil_append, List.cons_append]
  gi_wp2_with (gi_at_call 84; refine (callsIn_wide.2 (octets_any s _)).mono ?_; rintro e w' ⟨rfl, rfl⟩)
  simp only [Nat.add_assoc, Nat.reduceAdd]
  have hinf := Lib.hid (info_parts Try.info_str)
  obtain ⟨W0, hW0, hM0, hs0⟩ : ∃ W0, ((((((w.alloc (.cells #[S s] 9)).alloc (.cells #[] 9)).alloc (.cells #[.slice (some ⟨w.heap.size + 1, 0, none⟩) 0 0] 40)).alloc (.cells #[.int .i64 0] 3)).alloc
      (.cells #[.bool false] 4)).alloc (.cells #[S s] 9)) = W0 ∧ SpM w.heap.size w s [] 0 false W0 ∧ W0.heap.size = w.heap.size + 6 := by
    refine ⟨_, rfl, ?_, by simp⟩
    have a0 := Box.new w 9 (S s)
    have a1 := World.alloc_heap_new (w.alloc (.cells #[S s] 9)) (.cells #[] 9)
    have a2 := Box.new ((w.alloc (.cells #[S s] 9)).alloc (.cells #[] 9)) 40 (.slice (some ⟨w.heap.size + 1, 0, none⟩) 0 0)
    have a3 := Box.new (((w.alloc (.cells #[S s] 9)).alloc (.cells #[] 9)).alloc (.cells #[.slice (some ⟨w.heap.size + 1, 0, none⟩) 0 0] 40)) 3 (.int .i64 0)
    have a4 := Box.new ((((w.alloc (.cells #[S s] 9)).alloc (.cells #[] 9)).alloc (.cells #[.slice (some ⟨w.heap.size + 1, 0, none⟩) 0 0] 40)).alloc (.cells #[.int .i64 0] 3)) 4 (.bool false)
    have a5 := Box.new (((((w.alloc (.cells #[S s] 9)).alloc (.cells #[] 9)).alloc (.cells #[.slice (some ⟨w.heap.size + 1, 0, none⟩) 0 0] 40)).alloc (.cells #[.int .i64 0] 3)).alloc (.cells #[.bool false] 4)) 9 (S s)
    simp only [World.size_alloc, Nat.add_assoc, Nat.reduceAdd] at a1 a2 a3 a4 a5
    have hr : Row (SpR w.heap.size) 9 1 (.slice (some ⟨w.heap.size + 1, 0, none⟩) 0 0) 0 [] ((w.alloc (.cells #[S s] 9)).alloc (.cells #[] 9)) :=
      ⟨⟨rfl, .inr ⟨_, 0, #[], rfl, by omega, a1, by omega, by unfold maxLen; omega, rfl, rfl⟩⟩, fun g hg => by cases hg; exact .inl rfl⟩
    exact ⟨((((a0.alloc _).alloc _).alloc _).alloc _).alloc _, ⟨_, ((a2.alloc _).alloc _).alloc _, (((hr.alloc _).alloc _).alloc _).alloc _⟩, (a3.alloc _).alloc _, a4.alloc _, a5,
      (((((((Below.refl _ _).alloc (by simp) _).alloc (by simp) _).alloc (by simp; omega) _).alloc (by simp; omega) _).alloc (by simp; omega) _).alloc (by simp; omega) _), by simp⟩
  rw [hW0]
  clear hW0
  refine rf_outer rfl (enters_of Try.func100 (by kernel_rfl) rfl) (octets1_iter (w.heap.size + 5) s hs)
    (fun A B h => by subst h; exact KeepsOthers.refl _) sameCell.trans (fun A o => sameCell.put (by omega) A o)
    (fun _ _ _ _ ⟨_, h, _⟩ => by subst h; rfl)
    (SplI w.heap.size w s) (fun _ _ => False) (fun _ _ _ h e => by subst e; exact h) (fun _ _ _ h _ => h)
    (SplI.put (by omega)) (fun _ _ _ _ h _ => h)
    (fun r => ?start) (fun r => ?pre) ?round ?done (fun _ _ h => h.elim)
  case start => exact ⟨[], 0, false, Lb.SpI.start s, by simp, (hM0.alloc _).alloc _⟩
  case pre => exact ((hM0.alloc _).alloc _).it.cell
  case round =>
    rintro n k k' v W hI ⟨hk, rfl, rfl⟩
    gi_wp2
    refine rfNext_same (Eq.refl _) hI (SplI.put (by omega)) ?_
    clear hI hM0
    rintro W r rfl hr ⟨parts, fr, taken, h1, h2, hM⟩
    have hct := hM.tk.cell
    have hft := hM.tk.frozen
    cases taken with
    | true =>
      gi_wp2
      have hM1 := hM.setTk false
      exact ⟨KeepsOthers.setCell _ _ _, hM.it.same hM1.it, parts, fr, false, h1.taken hk, by omega, hM1⟩
    | false =>
      by_cases h92 : s[k] = 92
      · obtain ⟨e1, _⟩ := beq_u8 (n := 92) rfl h92
        have H92 := Lib.hid h92
        clear h92
        gi_wp2
        have hM1 := hM.setTk true
        exact ⟨KeepsOthers.setCell _ _ _, hM.it.same hM1.it, parts, fr, true, h1.stroke hk H92.out, by omega, hM1⟩
      · obtain ⟨e1, _⟩ := bne_u8 (n := 92) (b := 92) rfl h92
        have H92 := Lib.hid h92
        clear h92
        by_cases h46 : s[k] = 46
        · obtain ⟨f1, _⟩ := beq_u8 (n := 46) rfl h46
          have H46 := Lib.hid h46
          clear h46
          gi_wp2_with fail
          obtain ⟨v, hbv, hrow⟩ := hM.row
          have hSp := Lib.hid h1
          obtain ⟨q1, q2, _⟩ := h1
          have q1' : (fr : Int) ≤ k := by omega
          have q2' : (k : Int) < s.length := by omega
          have hw8 : IntKind.i64.wrap ((k : Int) + 1) = k + 1 := IntWalk.i64_in _ (by omega)
          refine drawnH [0, 1, 2, 5, 6] (fun w' => w'.cell? ⟨w.heap.size, 0, none⟩ = some (S s) ∧ w'.cell? ⟨w.heap.size + 2, 0, none⟩ = some v ∧ w'.cell? ⟨w.heap.size + 3, 0, none⟩ = some (.int .i64 fr)) 11 rfl (by kernel_rfl) ?_
          intro w' hw'
          have hM' : w'.heap = W.heap := by subst hw'; rfl
          have hS : w'.cell? ⟨w.heap.size, 0, none⟩ = some (S s) ∧ w'.cell? ⟨w.heap.size + 2, 0, none⟩ = some v ∧ w'.cell? ⟨w.heap.size + 3, 0, none⟩ = some (.int .i64 fr) := by
            subst hw'; exact ⟨hM.bs.cell, hbv.cell, hM.fr.cell⟩
          refine takeP 3 (v := ?v3) (fun _ => trivial) (by rfl) (by kernel_rfl) (.inl ⟨rfl, fun w1 _ => ?y3⟩) ?_
          case y3 => go_simp; rfl
          refine takeP 7 (v := ?v7) (fun _ => trivial) (by rfl) (by kernel_rfl) (.inl ⟨rfl, fun w1 _ => ?y7⟩) ?_
          case y7 => go_simp; rfl
          refine takeP 8 (v := ?v8) (fun _ => trivial) (by rfl) (by kernel_rfl) (.inl ⟨rfl, fun w1 _ => ?y8⟩) ?_
          case y8 => go_simp; rfl
          refine takeH 1 (v := ?v1) (fun _ => trivial) (by rfl) (by kernel_rfl) hS (.inl ⟨rfl, fun w1 ⟨c1, c2, c3⟩ => ?y1⟩) ?_
          case y1 => go_simp; rfl
          refine takeH 2 (v := ?v2) (fun _ => trivial) (by rfl) (by kernel_rfl) hS (.inl ⟨rfl, fun w1 ⟨c1, c2, c3⟩ => ?y2⟩) ?_
          case y2 => go_simp; rfl
          refine takeP 4 (v := ?v4) (fun _ => trivial) (by rfl) (by kernel_rfl) (.inl ⟨rfl, fun w1 _ => ?y4⟩) ?_
          case y4 => go_simp; rfl
          refine takeH 0 (v := ?v0) (fun _ => trivial) (by rfl) (by kernel_rfl) hS (.inl ⟨rfl, fun w1 ⟨c1, c2, c3⟩ => ?y0⟩) ?_
          case y0 => go_simp; rfl
          refine oneH 5 (by rfl) (by kernel_rfl) (fun K hK => ?_)
          gi_wp2_with fail
          obtain ⟨x, hx⟩ : ∃ x, (s.drop fr).take (k - fr) = x := ⟨_, rfl⟩
          rw [hx]
          have HX := Lib.hid hx
          clear hx
          have hM5 := hM.alloc (.cells #[S x] 9)
          have hbv5 := hbv.alloc (.cells #[S x] 9)
          have hrow5 := (hrow.alloc (.cells #[S x] 9)).drew
          refine hK _ _ (fun _ => ⟨hM5.bs.cell, hbv5.cell, hM5.fr.cell⟩) ?_
          clear hK K hS hw' hM' w' hw8
          have hszW := (Array.getElem?_eq_some_iff.1 hr).1
          rw [hs0] at hszW
          obtain ⟨i0, hi, hz0, hz1, hz2⟩ := hinf.out
          refine oneH 6 (by rfl) (by kernel_rfl) (fun K hK => ?_)
          refine append_in (SpR w.heap.size) rfl _ _ 40 rfl 9 i0 (.string ⟨#[]⟩) 1 16 Try.underlying40 hi hz0 hz1 hz2 rfl (by decide) v parts.length (parts.map S) (by rfl) hrow5 ⟨W.heap.size, 0, none⟩ 1 1 [S x] (by rfl) rfl (cell_one_new W _ _) (by simp [Value.oneCell']) (by unfold maxLen; omega) (by omega) (.inr (by simp; omega)) ?_
          intro v' w2 hrow2 hgrow _
          obtain ⟨ao, co, rfl⟩ := hrow2.form
          have hR6 : ∀ g, v.ownBlock = some g → SpR w.heap.size g := hrow.2
          have b0 := Box.grown (R := SpR w.heap.size) (W := (W.alloc (.cells #[S x] 9)).drew) hM5.bs hgrow hR6 (by unfold SpR; omega)
          have b2 := Box.grown (R := SpR w.heap.size) (W := (W.alloc (.cells #[S x] 9)).drew) hbv5 hgrow hR6 (by unfold SpR; omega)
          have b3 := Box.grown (R := SpR w.heap.size) (W := (W.alloc (.cells #[S x] 9)).drew) hM5.fr hgrow hR6 (by unfold SpR; omega)
          have b4 := Box.grown (R := SpR w.heap.size) (W := (W.alloc (.cells #[S x] 9)).drew) hM5.tk hgrow hR6 (by unfold SpR; omega)
          have b5 := Box.grown (R := SpR w.heap.size) (W := (W.alloc (.cells #[S x] 9)).drew) hM5.it hgrow hR6 (by unfold SpR; omega)
          have hb6 : Below w.heap.size w w2 := Below.grown (w := (W.alloc (.cells #[S x] 9)).drew) hM5.below.drew hgrow (by simp; omega) (fun g hg => by have := hR6 g hg; unfold SpR at this; omega)
          have hko6 : KeepsOthers W w2 := (KeepsOthers.trans (KeepsOthers.alloc W (.cells #[S x] 9)) (KeepsOthers.drew _)).trans (hrow5.keepsOthers hgrow)
          refine hK _ _ (fun _ => ⟨b0.cell, b2.cell, b3.cell⟩) ?_
          clear hK K
          refine oneH 9 (by rfl) (by kernel_rfl) (fun K hK => ?_)
          have c2 := b2.cell
          have f2 := b2.frozen
          have c3 := b3.cell
          have f3 := b3.frozen
          gi_wp2_with fail
          refine hK _ _ (fun h => absurd h (by decide)) ?_
          clear hK K
          refine oneH 10 (by rfl) (by kernel_rfl) (fun K hK => ?_)
          gi_wp2_with fail
          refine hK _ _ (fun h => absurd h (by decide)) ?_
          clear hK K
          refine doneH (by kernel_rfl) ?_
          have b0' := (b0.setOther (c := w.heap.size + 2) (o := 0) (by omega) (.slice ao (parts.length + 1) co)).setOther (c := w.heap.size + 3) (o := 0) (by omega) (.int .i64 ((k : Int) + 1))
          have b2' := (b2.set (.slice ao (parts.length + 1) co)).setOther (c := w.heap.size + 3) (o := 0) (by omega) (.int .i64 ((k : Int) + 1))
          have b3' := (b3.setOther (c := w.heap.size + 2) (o := 0) (by omega) (.slice ao (parts.length + 1) co)).set (.int .i64 ((k : Int) + 1))
          have b4' := (b4.setOther (c := w.heap.size + 2) (o := 0) (by omega) (.slice ao (parts.length + 1) co)).setOther (c := w.heap.size + 3) (o := 0) (by omega) (.int .i64 ((k : Int) + 1))
          have b5' := (b5.setOther (c := w.heap.size + 2) (o := 0) (by omega) (.slice ao (parts.length + 1) co)).setOther (c := w.heap.size + 3) (o := 0) (by omega) (.int .i64 ((k : Int) + 1))
          have hr' := (hrow2.setOther (b := w.heap.size + 2) (o := 0) (by unfold SpR; omega) (.slice ao (parts.length + 1) co)).setOther (b := w.heap.size + 3) (o := 0) (by unfold SpR; omega) (.int .i64 ((k : Int) + 1))
          refine ⟨(hko6.trans (KeepsOthers.setCell _ _ _)).trans (KeepsOthers.setCell _ _ _), hM.it.same b5', parts ++ [x], k + 1, false, by rw [← HX.out]; exact hSp.out.dot hk H46.out, by simp; omega, ?_⟩
          exact ⟨b0', ⟨_, b2', by simpa using hr'⟩, b3', b4', b5', (hb6.setCell (p := ⟨w.heap.size + 2, 0, none⟩) (show _ ≤ w.heap.size + 2 by omega) _).setCell (p := ⟨w.heap.size + 3, 0, none⟩) (show _ ≤ w.heap.size + 3 by omega) _, by have := b5'.lt; omega⟩
        · obtain ⟨f1, _⟩ := bne_u8 (n := 46) (b := 46) rfl h46
          have H46 := Lib.hid h46
          clear h46
          gi_wp2_with fail
          exact ⟨KeepsOthers.refl _, Eq.refl _, parts, fr, false, h1.plain hk H92.out H46.out, by omega, hM⟩
  case done =>
    rintro k W rfl ⟨parts, fr, taken, h1, h2, hM⟩ hKd
    rw [hs0] at hKd ⊢
    have hct := hM.tk.cell
    cases taken with
    | true =>
      have HN := Lib.hid h1.fail
      clear h1
      gi_wp2
      refine ⟨by simp, .inl ⟨_, _, rfl, run_takeDeferred hKd, ?_⟩⟩
      refine ⟨_, results_tmp2 rfl _ _ _, _, _, rfl, ?_, below_putD hM.below (by omega) (by have := hM.size; omega) _⟩
      unfold SplitR; rw [HN.out]; exact ⟨rfl, rfl⟩
    | false =>
      have HN := Lib.hid h1.done
      obtain ⟨q1, q2, _⟩ := h1
      gi_wp2_with fail
      obtain ⟨v, hbv, hrow⟩ := hM.row
      have q1' : (fr : Int) ≤ s.length := by omega
      refine drawnH [0, 1, 2, 4, 5] (fun w' => w'.cell? ⟨w.heap.size, 0, none⟩ = some (S s) ∧ w'.cell? ⟨w.heap.size + 2, 0, none⟩ = some v ∧ w'.cell? ⟨w.heap.size + 3, 0, none⟩ = some (.int .i64 fr)) 8 rfl (by kernel_rfl) ?_
      intro w' hw'
      have hS : w'.cell? ⟨w.heap.size, 0, none⟩ = some (S s) ∧ w'.cell? ⟨w.heap.size + 2, 0, none⟩ = some v ∧ w'.cell? ⟨w.heap.size + 3, 0, none⟩ = some (.int .i64 fr) := by
        subst hw'; exact ⟨hM.bs.cell, hbv.cell, hM.fr.cell⟩
      refine takeH 1 (v := ?u1) (fun _ => trivial) (by rfl) (by kernel_rfl) hS (.inl ⟨rfl, fun w1 ⟨c1, c2, c3⟩ => ?z1⟩) ?_
      case z1 => go_simp; rfl
      refine takeH 2 (v := ?u2) (fun _ => trivial) (by rfl) (by kernel_rfl) hS (.inl ⟨rfl, fun w1 ⟨c1, c2, c3⟩ => ?z2⟩) ?_
      case z2 => go_simp; rfl
      refine takeP 3 (v := ?u3) (fun _ => trivial) (by rfl) (by kernel_rfl) (.inl ⟨rfl, fun w1 _ => ?z3⟩) ?_
      case z3 => go_simp; rfl
      refine takeH 0 (v := ?u0) (fun _ => trivial) (by rfl) (by kernel_rfl) hS (.inl ⟨rfl, fun w1 ⟨c1, c2, c3⟩ => ?z0⟩) ?_
      case z0 => go_simp; rfl
      refine oneH 4 (by rfl) (by kernel_rfl) (fun K hK => ?_)
      gi_wp2_with fail
      have hM5 := hM.alloc (.cells #[S (s.drop fr)] 9)
      have hbv5 := hbv.alloc (.cells #[S (s.drop fr)] 9)
      have hrow5 := (hrow.alloc (.cells #[S (s.drop fr)] 9)).drew
      refine hK _ _ (fun _ => ⟨hM5.bs.cell, hbv5.cell, hM5.fr.cell⟩) ?_
      clear hK K hS hw' w'
      have hszW := (Array.getElem?_eq_some_iff.1 hKd).1
      obtain ⟨i0, hi, hz0, hz1, hz2⟩ := hinf.out
      refine oneH 5 (by rfl) (by kernel_rfl) (fun K hK => ?_)
      refine append_in (fun g => SpR w.heap.size g ∨ g = w.heap.size + 7) rfl _ _ 40 rfl 9 i0 (.string ⟨#[]⟩) 1 16 Try.underlying40 hi hz0 hz1 hz2 rfl (by decide) v parts.length (parts.map S) (by rfl) (hrow5.mono fun _ h => .inl h) ⟨W.heap.size, 0, none⟩ 1 1 [S (s.drop fr)] (by rfl) rfl (cell_one_new W _ _) (by simp [Value.oneCell']) (by unfold maxLen; omega) (by omega) (by unfold SpR; simp; omega) ?_
      intro v' w2 hrow2 hgrow _
      obtain ⟨ao, co, rfl⟩ := hrow2.form
      have hR6 : ∀ g, v.ownBlock = some g → SpR w.heap.size g := hrow.2
      have b0 := Box.grown (R := SpR w.heap.size) (W := (W.alloc (.cells #[S (s.drop fr)] 9)).drew) hM5.bs hgrow hR6 (by unfold SpR; omega)
      have b2 := Box.grown (R := SpR w.heap.size) (W := (W.alloc (.cells #[S (s.drop fr)] 9)).drew) hbv5 hgrow hR6 (by unfold SpR; omega)
      have b3 := Box.grown (R := SpR w.heap.size) (W := (W.alloc (.cells #[S (s.drop fr)] 9)).drew) hM5.fr hgrow hR6 (by unfold SpR; omega)
      have hb6 : Below w.heap.size w w2 := Below.grown (w := (W.alloc (.cells #[S (s.drop fr)] 9)).drew) hM5.below.drew hgrow (by simp; omega) (fun g hg => by have := hR6 g hg; unfold SpR at this; omega)
      have hko6 : KeepsOthers W w2 := (KeepsOthers.trans (KeepsOthers.alloc W (.cells #[S (s.drop fr)] 9)) (KeepsOthers.drew _)).trans (hrow5.keepsOthers hgrow)
      refine hK _ _ (fun _ => ⟨b0.cell, b2.cell, b3.cell⟩) ?_
      clear hK K
      refine oneH 6 (by rfl) (by kernel_rfl) (fun K hK => ?_)
      gi_wp2_with fail
      refine hK _ _ (fun h => absurd h (by decide)) ?_
      clear hK K
      refine oneH 7 (by rfl) (by kernel_rfl) (fun K hK => ?_)
      gi_wp2_with fail
      refine hK _ _ (fun h => absurd h (by decide)) ?_
      clear hK K
      refine doneH (by kernel_rfl) ?_
      gi_wp2_with fail
      have hK2 := hko6.same _ _ hKd rfl
      refine ⟨by simp, .inl ⟨_, _, rfl, run_takeDeferred hK2, ?_⟩⟩
      refine ⟨_, results_tmp2 rfl _ _ _, _, _, rfl, ?_, below_putD hb6 (by omega) (by have := hb6.size; omega) _⟩
      unfold SplitR; rw [HN.out]
      exact ⟨rfl, Row.strs (l := parts ++ [s.drop fr]) (by simpa using hrow2.putD hK2 _)⟩
end Go.Proofs.Ytikibmeopndncaa
