/- tok's Entries. -/
import Derived.Test.YticljagcigiejaaTkG
namespace Go.Proofs.Yticljagcigiejaa
open Go.RowKit Go.Shelf
set_option maxRecDepth 100000
attribute [local go_sem] Oper.semAt_some

/-- whose memory it is: all but the reader's own cells -/
def Zn (B : Nat) (g : Nat) : Prop := g < B + 8 ∧ g ≠ B + 3
structure EnM (B : Nat) (w W : World) : Prop where
  r0 : Box B 23 (.slice none 0 0) W
  r1 : Box (B + 1) 3 (.int .i64 0) W
  r2 : Box (B + 2) 24 (.int .i64 0) W
  pb : Box (B + 4) 63 (.pointer (some ⟨B + 3, 0, none⟩)) W
  below : Below B w W
theorem EnM.kept {B : Nat} {w W W' : World} (h : EnM B w W) (hb : Below B W W') (hk : ∀ g, g < B + 5 → g ≠ B + 3 → W'.heap[g]? = W.heap[g]?) : EnM B w W' :=
  ⟨(hk _ (by omega) (by omega)).trans h.r0, (hk _ (by omega) (by omega)).trans h.r1, (hk _ (by omega) (by omega)).trans h.r2, (hk _ (by omega) (by omega)).trans h.pb, h.below.trans hb⟩
theorem EnM.keep {B : Nat} {w W W' : World} (h : EnM B w W) (k : Keep (Zn B) W W') : EnM B w W' :=
  h.kept (k.below fun g hg => ⟨by omega, by omega⟩) fun g hg hne => k.block g ⟨by omega, hne⟩
def EnI (B : Nat) (w : World) (s0 : List UInt8) (p : List UInt8 × Nat) (W : World) : Prop :=
  ∃ st cu, Tk.ent s0 1 Tk.st0 = Tk.ent p.1 p.2 st ∧ Tk.Rdr (Zn B) (B + 3) st cu (decide (st.opens ≠ [])) W ∧ EnM B w W ∧ st.opens.length ≤ 8 ∧ st.words.length + p.1.length ≤ 800000 ∧ st.out.length + p.1.length ≤ 800000
def EnX (B : Nat) (w : World) (s0 : List UInt8) (c : Code) (W : World) : Prop :=
  c = .ret ∧ ∃ (n : Nat) (e : Int), Tk.entries s0 = ([], n, e) ∧ Box B 23 (.slice none 0 0) W ∧ Box (B + 1) 3 (.int .i64 n) W ∧ Box (B + 2) 24 (.int .i64 e) W ∧ Below B w W ∧ B + 8 ≤ W.heap.size
theorem EnI.st {B w s0 p A W} (h : EnI B w s0 p A) (k : lnSt (B + 5) A W) : EnI B w s0 p W := by
  obtain ⟨st, cu, h1, h2, h3, h4⟩ := h
  have hz := h2.zl
  have hb8 : B + 8 ≤ A.heap.size := by have := hz (B + 7) ⟨by omega, by omega⟩; omega
  refine ⟨st, cu, h1, h2.kept k.1.size (fun g hg hl => k.1.block g ⟨fun e => hg (by subst e; exact ⟨by omega, by omega⟩), hl⟩), h3.kept (k.1.below fun g hg => ⟨by omega, by omega⟩) (fun g hg _ => k.1.block g ⟨by omega, by omega⟩), h4⟩
theorem EnX.st {B w s0 c A W} (h : EnX B w s0 c A) (k : lnSt (B + 5) A W) : EnX B w s0 c W := by
  obtain ⟨h0, n, e, h1, h2, h3, h4, h5, h6⟩ := h
  have hk : ∀ g, g < B + 5 → W.heap[g]? = A.heap[g]? := fun g hg => k.1.block g ⟨by omega, by omega⟩
  exact ⟨h0, n, e, h1, (hk _ (by omega)).trans h2, (hk _ (by omega)).trans h3, (hk _ (by omega)).trans h4, h5.trans (k.1.below fun g hg => ⟨by omega, by omega⟩), by have := k.1.size; omega⟩
theorem EnI.put {B w s0 L} (hL : L = B + 7) (p : List UInt8 × Nat) (A : World) (r : Loop) (o : Obj) (h : EnI B w s0 p A) (hr : A.heap[L]? = some (.loop r)) : EnI B w s0 p (A.putObj L o) := by
  subst hL
  obtain ⟨st, cu, h1, h2, h3, h4⟩ := h
  have hl := (Array.getElem?_eq_some_iff.1 hr).1
  have hk : ∀ g, g ≠ B + 7 → (A.putObj (B + 7) o).heap[g]? = A.heap[g]? := fun g hg => World.putObj_heap_other hg
  exact ⟨st, cu, h1, h2.kept (by simp) (fun g hg _ => hk g (fun e => hg (by subst e; exact ⟨by omega, by omega⟩))), h3.kept (below_put (Below.refl _ _) (by omega) hr (by omega) o) (fun g hg _ => hk g (by omega)), h4⟩
theorem EnX.put {B w s0 L} (hL : L = B + 7) (c : Code) (A : World) (r : Loop) (o : Obj) (h : EnX B w s0 c A) (hr : A.heap[L]? = some (.loop r)) : EnX B w s0 c (A.putObj L o) := by
  subst hL
  obtain ⟨h0, n, e, h1, h2, h3, h4, h5, h6⟩ := h
  exact ⟨h0, n, e, h1, h2.put hr o, h3.put hr o, h4.put hr o, below_put h5 (by omega) hr (by omega) o, by simpa using h6⟩

theorem Tk.Rdr.line {Z b st cu bg} {W : World} (h : Tk.Rdr Z b st cu bg W) (n : Nat) : Tk.Rdr Z b st n bg (W.setCell ⟨b, 4, none⟩ (.int .i64 n)) := by
  obtain ⟨Fz, vo, vw, vp, us, hc, hr⟩ := h
  exact ⟨Fz, vo, vw, vp, us, block_set hc 4 _, hr.set 4 _⟩
theorem Tk.Rdr.bg {Z b st cu bg} {W : World} (h : Tk.Rdr Z b st cu bg W) (x : Bool) : Tk.Rdr Z b st cu x (W.setCell ⟨b, 5, none⟩ (.bool x)) := by
  obtain ⟨Fz, vo, vw, vp, us, hc, hr⟩ := h
  exact ⟨Fz, vo, vw, vp, us, block_set hc 5 _, hr.set 5 _⟩
theorem Tk.Rdr.blank {Z b st cu bg} {W : World} (h : Tk.Rdr Z b st cu bg W) (x : Bool) : Tk.Rdr Z b { st with blank := x } cu bg (W.setCell ⟨b, 2, none⟩ (.bool x)) := by
  obtain ⟨Fz, vo, vw, vp, us, hc, hr⟩ := h
  exact ⟨Fz, vo, vw, vp, us, block_set hc 2 _, (hr.set 2 _).line _ _⟩
theorem Tk.Rdr.drew {Z b st cu bg} {W : World} (h : Tk.Rdr Z b st cu bg W) : Tk.Rdr Z b st cu bg W.drew := h.kept (Nat.le_refl _) (fun _ _ _ => rfl)
theorem Tk.Rdr.nz {Z b st cu bg} {W : World} (h : Tk.Rdr Z b st cu bg W) : ¬ Z b := by
  obtain ⟨Fz, vo, vw, vp, us, hc, hr⟩ := h; exact hr.bz
/-- the cells of a reader -/
theorem Tk.Rdr.cells {Z b st cu bg} {W : World} (h : Tk.Rdr Z b st cu bg W) : ∃ vo vw o cap, (∀ j v, #[vo, Value.int .i64 (st.line : Int), .bool st.blank, vw, .int .i64 (cu : Int), .bool bg, .slice o st.opens.length cap][j]? = some v → W.cell? ⟨b, j, none⟩ = some v) ∧ (∀ j, W.frozen? ⟨b, j, none⟩ = false) ∧ b < W.heap.size ∧
    (∀ j (hj : j < st.opens.length), ∃ g, o = some ⟨g, 0, none⟩ ∧ ¬ Z g ∧ g ≠ b ∧ W.cell? ⟨g, j, none⟩ = some (.int .i64 (st.opens[j] : Int))) ∧ st.opens.length ≤ cap ∧ Tk.EnRd (fun g => ¬ Z g ∧ g ≠ b) vo st.out W := by
  obtain ⟨Fz, vo, vw, vp, us, hc, hr⟩ := h
  obtain ⟨o, cap, rfl⟩ := hr.rp.form
  refine ⟨vo, vw, o, cap, cells_of hc, frozen_of hc, hr.bl, fun j hj => ?_, ?_, hr.entries⟩
  · obtain ⟨g, cap', hv, hg, _, _, h1, _⟩ := hr.rp.at (by omega)
    cases hv
    refine ⟨g, rfl, hg.1, hg.2.1, ?_⟩
    have := h1 j (by simp [Tk.cellsI]; exact hj)
    rw [this]; simp [Tk.cellsI]
  · obtain ⟨⟨_, ho⟩, _⟩ := hr.rp
    rcases ho with ⟨_, h0⟩ | ⟨g, cap', cur, hv, _, _, h1, _⟩
    · omega
    · cases hv; exact h1
theorem Tk.Rdr.new {Z : Nat → Prop} {b : Nat} {W : World} (hc : W.heap[b]? = some (.cells #[.slice none 0 0, .int .i64 0, .bool false, .slice none 0 0, .int .i64 0, .bool false, .slice none 0 0] 66 (0, 0))) (hz : ∀ g, Z g → g < W.heap.size) (hb : ¬ Z b) : Tk.Rdr Z b Tk.st0 0 false W :=
  ⟨fun _ => False, _, _, _, [], hc, ⟨hb, (Array.getElem?_eq_some_iff.1 hc).1, hz, fun _ h => h.elim, rfl, fun i h => by simp at h, Row.nil _ _ _ _, Row.nil _ _ _ _, Row.nil _ _ _ _⟩⟩
theorem lnKp.trans (bs : Nat) (A B C : World) (h : lnKp bs A B) (k : lnKp bs B C) : lnKp bs A C := ⟨Nat.le_trans h.1 k.1, k.2.trans h.2⟩
def EntP (s : List UInt8) (w : World) (e : Ending) (w' : World) : Prop :=
  ∃ v, e = .returned (.tuple #[v, .int .i64 (Tk.entries s).2.1, .int .i64 (Tk.entries s).2.2]) ∧ Tk.EnRd (fun _ => True) v (Tk.entries s).1 w' ∧ Below w.heap.size w w'

set_option maxHeartbeats 4000000 in
theorem tEntries_any (s : List UInt8) (w : World) (hs : s.length ≤ 700000) :
    Calls Try.prog 11 #[S s] w (EntP s w) := by
  refine (callsIn_wide (n := 0)).1 ?_
  refine callsIn_of_wp_marks Try.func11 rfl trivial ?_ rfl
  simp only [Try.ntmps11, List.size_toArray, List.length_cons, List.length_nil, Nat.reduceAdd, Nat.reduceSub, Array.replicate_succ, Array.replicate_zero, List.push_toArray, List.append_toArray, List.nil_append, List.cons_append]
  gi_wp2_with (gi_at_call 28; refine (callsIn_wide.2 (lines_any s _)).mono ?_; rintro e w' ⟨rfl, rfl⟩)
  simp only [Nat.add_assoc, Nat.reduceAdd]
  obtain ⟨W0, hW0, hM0, hR0, hB0, hs0⟩ : ∃ W0, ((((((w.alloc (.cells #[.slice none 0 0] 23)).alloc (.cells #[.int .i64 0] 3)).alloc (.cells #[.int .i64 0] 24)).alloc
      (.cells #[.slice none 0 0, .int .i64 0, .bool false, .slice none 0 0, .int .i64 0, .bool false, .slice none 0 0] 66)).alloc (.cells #[.pointer (some ⟨w.heap.size + 3, 0, none⟩)] 63)).alloc (.cells #[S s] 9)) = W0 ∧
      EnM w.heap.size w W0 ∧ W0.heap[w.heap.size + 3]? = some (.cells #[.slice none 0 0, .int .i64 0, .bool false, .slice none 0 0, .int .i64 0, .bool false, .slice none 0 0] 66 (0, 0)) ∧ Box (w.heap.size + 5) 9 (S s) W0 ∧ W0.heap.size = w.heap.size + 6 := by
    refine ⟨_, rfl, ?_, ?_, ?_, by simp⟩
    · have a0 := Box.new w 23 (.slice none 0 0)
      have a1 := Box.new (w.alloc (.cells #[.slice none 0 0] 23)) 3 (.int .i64 0)
      have a2 := Box.new ((w.alloc (.cells #[.slice none 0 0] 23)).alloc (.cells #[.int .i64 0] 3)) 24 (.int .i64 0)
      have a4 := Box.new ((((w.alloc (.cells #[.slice none 0 0] 23)).alloc (.cells #[.int .i64 0] 3)).alloc (.cells #[.int .i64 0] 24)).alloc
        (.cells #[.slice none 0 0, .int .i64 0, .bool false, .slice none 0 0, .int .i64 0, .bool false, .slice none 0 0] 66)) 63 (.pointer (some ⟨w.heap.size + 3, 0, none⟩))
      simp only [World.size_alloc, Nat.add_assoc, Nat.reduceAdd] at a1 a2 a4
      exact ⟨((((a0.alloc _).alloc _).alloc _).alloc _).alloc _, (((a1.alloc _).alloc _).alloc _).alloc _, ((a2.alloc _).alloc _).alloc _, a4.alloc _,
        ((((((Below.refl _ _).alloc (by simp) _).alloc (by simp) _).alloc (by simp; omega) _).alloc (by simp; omega) _).alloc (by simp; omega) _).alloc (by simp; omega) _⟩
    · have := World.alloc_heap_new (((w.alloc (.cells #[.slice none 0 0] 23)).alloc (.cells #[.int .i64 0] 3)).alloc (.cells #[.int .i64 0] 24)) (.cells #[.slice none 0 0, .int .i64 0, .bool false, .slice none 0 0, .int .i64 0, .bool false, .slice none 0 0] 66)
      simp only [World.size_alloc, Nat.add_assoc, Nat.reduceAdd] at this
      rw [Below.heap_alloc _ _ _ (by simp), Below.heap_alloc _ _ _ (by simp)]
      exact this
    · have := Box.new (((((w.alloc (.cells #[.slice none 0 0] 23)).alloc (.cells #[.int .i64 0] 3)).alloc (.cells #[.int .i64 0] 24)).alloc
        (.cells #[.slice none 0 0, .int .i64 0, .bool false, .slice none 0 0, .int .i64 0, .bool false, .slice none 0 0] 66)).alloc (.cells #[.pointer (some ⟨w.heap.size + 3, 0, none⟩)] 63)) 9 (S s)
      simpa only [World.size_alloc, Nat.add_assoc, Nat.reduceAdd] using this
  rw [hW0]
  clear hW0
  refine rf_outer rfl (enters_of Try.func49 (by kernel_rfl) rfl) (lines1_iter (w.heap.size + 5) s (by omega))
    (fun A B h => h.others) (lnKp.trans _) (fun A o => ⟨by simp, World.putObj_heap_other (by omega)⟩)
    (fun _ _ _ _ ⟨_, _, h, _⟩ => by subst h; rfl)
    (EnI w.heap.size w s) (EnX w.heap.size w s) (fun _ _ _ h k => h.st k) (fun _ _ _ h k => h.st k)
    (EnI.put (by omega)) (EnX.put (by omega))
    (fun r => ?start) (fun r => ?pre) ?round ?done ?stop
  case start =>
    refine ⟨Tk.st0, 0, rfl, ?_, hM0.kept ((((Below.refl _ _).alloc (by omega) _)).alloc (by simp; omega) _) (fun g hg _ => ?_), by simp [Tk.st0], by simp [Tk.st0]; omega, by simp [Tk.st0]; omega⟩
    · refine Tk.Rdr.new ?_ (fun g hg => ?_) (fun h => h.2 rfl)
      · rw [Below.heap_alloc _ _ _ (by simp; omega), Below.heap_alloc _ _ _ (by omega)]; exact hR0
      · have := hg.1; simp; omega
    · rw [Below.heap_alloc _ _ _ (by simp; omega), Below.heap_alloc _ _ _ (by omega)]
  case pre => exact (hB0.alloc _).alloc _
  case round =>
    rintro l p p' v W hI ⟨hne, hlen, rfl, rfl⟩
    gi_wp2
    refine rfNext_same (show lnKp (w.heap.size + 5) W W from ⟨Nat.le_refl _, rfl⟩) hI (EnI.put (L := W0.heap.size + 1) (by omega)) ?_
    clear hI hM0 hR0 hB0
    rintro W r rfl hr hI
    obtain ⟨s', n⟩ := p
    obtain ⟨st, cu, hent, hR, hM, hop, hwl, hol⟩ := hI
    try simp only at hne hlen hent hwl hol
    have hl1 := Tk.line1_len s' hne
    have hl2 := Tk.rest_len s' hne
    have hec := Tk.ent_cons hne n st
    rw [← hent] at hec
    obtain ⟨lt, hlt⟩ : ∃ lt, Tk.line1 s' = lt := ⟨_, rfl⟩
    obtain ⟨rt, hrt⟩ : ∃ rt, Tk.rest s' = rt := ⟨_, rfl⟩
    simp only [hlt, hrt] at hl1 hl2 hec ⊢
    obtain ⟨vo, vw, o, cap, hcell, hfz, hbl, _⟩ := hR.cells
    have c2 := hcell 2 _ rfl
    have c4 := hcell 4 _ rfl
    have c5 := hcell 5 _ rfl
    try simp only at c2 c4 c5
    have p0 := hM.pb.cell
    have hl2' := hl2
    have HEC := Lib.hid hec
    have HR := Lib.hid hR
    have HM := Lib.hid hM
    have HL := Lib.hid hl1
    have HL2 := Lib.hid hl2
    have hz8 : w.heap.size + 8 ≤ W.heap.size := by have := hR.zl (w.heap.size + 7) ⟨by omega, by omega⟩; omega
    have HOP := Lib.hid hop
    have HWL := Lib.hid hwl
    have HOL := Lib.hid hol
    have HOKE := Lib.hid (fun st' (h : Tk.read lt (st.begin lt) n = .ok st') => (show Tk.ent s 1 Tk.st0 = Tk.ent rt (n + 1) st'.fin by rw [hec]; simp [Tk.stepL, h, Except.map]))
    have HER := Lib.hid (fun z (h : Tk.read lt (st.begin lt) n = .error z) => (show Tk.ent s 1 Tk.st0 = .error (n, z) by rw [hec]; simp [Tk.stepL, h, Except.map]))
    have HGB := Lib.hid (fun st' (h : Tk.read lt (st.begin lt) n = .ok st') => (show st'.fin.opens.length ≤ 8 ∧ st'.fin.words.length + rt.length ≤ 800000 ∧ st'.fin.out.length + rt.length ≤ 800000 by
      obtain ⟨g1, g2, g3, _⟩ := Tk.read_grows h (show (st.begin lt).opens.length ≤ 8 from hop)
      have g1 : st'.words.length ≤ st.words.length + lt.length := g1
      have g2 : st'.out = st.out := g2
      unfold Tk.St.fin
      split
      · refine ⟨g3, by simp [Tk.St.endE]; omega, ?_⟩
        unfold Tk.St.endE
        split
        · rw [g2]; omega
        · simp only [List.length_append, List.length_cons, List.length_nil]; rw [g2]; omega
      · exact ⟨g3, by omega, by rw [g2]; omega⟩))
    have HB3 := Lib.hid (show (st.begin lt).opens.length ≤ 8 ∧ (st.begin lt).words.length + lt.length ≤ 900000 ∧ (st.begin lt).out.length ≤ 900000 from ⟨hop, by simp [Tk.St.begin]; omega, by simp [Tk.St.begin]; omega⟩)
    clear hent hR hM hcell hne hlen hlt hrt hec hl1 hl2 hl2' hop hwl hol
    by_cases hopn : st.opens = []
    · have HO := Lib.hid hopn
      have hbg : decide (st.opens ≠ []) = false := by simp [hopn]
      rw [hbg] at c5 HR
      clear hbg hopn
      have hcases : lt = [] ∨ (∃ r, lt = 32 :: r) ∨ (∃ r, lt = 9 :: r) ∨ ∃ c r, lt = c :: r ∧ c ≠ 32 ∧ c ≠ 9 := by
        rcases lt with _ | ⟨c, r⟩
        · exact .inl rfl
        · by_cases h1 : c = 32
          · subst h1; exact .inr (.inl ⟨r, rfl⟩)
          · by_cases h2 : c = 9
            · subst h2; exact .inr (.inr (.inl ⟨r, rfl⟩))
            · exact .inr (.inr (.inr ⟨c, r, rfl, h1, h2⟩))
      rcases hcases with rfl | ⟨r, rfl⟩ | ⟨r, rfl⟩ | ⟨c, r, rfl, hc32, hc9⟩
      · skip
        gi_wp2_with fail
        refine drawnH [0] (fun w' => w'.cell? ⟨w.heap.size + 4, 0, none⟩ = some (.pointer (some ⟨w.heap.size + 3, 0, none⟩))) 17 rfl (by kernel_rfl) ?_
        intro w' hw'
        obtain ⟨HM1, HR1, HK1⟩ : Hid (EnM w.heap.size w w') ∧ Hid (Tk.Rdr (Zn w.heap.size) (w.heap.size + 3) st n true w') ∧ Hid (Keep (Zn w.heap.size) W w') := by
          subst hw'
          have K := (((Keep.refl (Zn w.heap.size) W).setCell (p := ⟨w.heap.size + 3, 4, none⟩) (fun h => h.2 rfl) (.int .i64 n)).setCell (p := ⟨w.heap.size + 3, 5, none⟩) (fun h => h.2 rfl) (.bool true)).drew
          exact ⟨Lib.hid (HM.out.keep K), Lib.hid ((HR.out.line n).bg true).drew, Lib.hid K⟩
        clear hw' c2 c4 c5 p0
        have hS : w'.cell? ⟨w.heap.size + 4, 0, none⟩ = some (.pointer (some ⟨w.heap.size + 3, 0, none⟩)) := HM1.out.pb.cell
        refine takeP 1 (v := ?qav1) (fun _ => trivial) (by rfl) (by kernel_rfl) (.inl ⟨by kernel_rfl, fun w1 _ => ?qay1⟩) ?_
        case qay1 => (go_simp; try first | rfl | (rw [if_pos (by omega)]) | (rw [if_neg (by omega)]) | (rw [if_neg (by simp; omega)]) | (split <;> first | (exfalso; omega) | rfl))
        refine takeP 2 (v := ?qav2) (fun _ => trivial) (by rfl) (by kernel_rfl) (.inl ⟨by kernel_rfl, fun w1 _ => ?qay2⟩) ?_
        case qay2 => (go_simp; try first | rfl | (rw [if_pos (by omega)]) | (rw [if_neg (by omega)]) | (rw [if_neg (by simp; omega)]) | (split <;> first | (exfalso; omega) | rfl))
        refine takeP 3 (v := ?qav3) (fun _ => trivial) (by rfl) (by kernel_rfl) (.inl ⟨by kernel_rfl, fun w1 _ => ?qay3⟩) ?_
        case qay3 => (go_simp; try first | rfl | (rw [if_pos (by omega)]) | (rw [if_neg (by omega)]) | (rw [if_neg (by simp; omega)]) | (split <;> first | (exfalso; omega) | rfl))
        refine takeP 4 (v := undef) (fun _ => trivial) (by rfl) (by kernel_rfl) (.inr ⟨by kernel_rfl, rfl⟩) ?_
        refine takeP 5 (v := undef) (fun _ => trivial) (by rfl) (by kernel_rfl) (.inr ⟨by kernel_rfl, rfl⟩) ?_
        refine takeP 6 (v := undef) (fun _ => trivial) (by rfl) (by kernel_rfl) (.inr ⟨by kernel_rfl, rfl⟩) ?_
        refine takeP 7 (v := undef) (fun _ => trivial) (by rfl) (by kernel_rfl) (.inr ⟨by kernel_rfl, rfl⟩) ?_
        refine takeP 8 (v := undef) (fun _ => trivial) (by rfl) (by kernel_rfl) (.inr ⟨by kernel_rfl, rfl⟩) ?_
        refine takeP 9 (v := undef) (fun _ => trivial) (by rfl) (by kernel_rfl) (.inr ⟨by kernel_rfl, rfl⟩) ?_
        refine takeP 10 (v := undef) (fun _ => trivial) (by rfl) (by kernel_rfl) (.inr ⟨by kernel_rfl, rfl⟩) ?_
        refine takeP 11 (v := undef) (fun _ => trivial) (by rfl) (by kernel_rfl) (.inr ⟨by kernel_rfl, rfl⟩) ?_
        refine takeP 12 (v := ?qav12) (fun _ => trivial) (by rfl) (by kernel_rfl) (.inl ⟨by kernel_rfl, fun w1 _ => ?qay12⟩) ?_
        case qay12 => (go_simp; try first | rfl | (rw [if_pos (by omega)]) | (rw [if_neg (by omega)]) | (rw [if_neg (by simp; omega)]) | (split <;> first | (exfalso; omega) | rfl))
        refine takeH 0 (v := ?qav0) (fun _ => trivial) (by rfl) (by kernel_rfl) hS (.inl ⟨by kernel_rfl, fun w1 a1 => ?qay0⟩) ?_
        case qay0 => (go_simp; try first | rfl | (rw [if_pos (by omega)]) | (rw [if_neg (by omega)]) | (rw [if_neg (by simp; omega)]) | (split <;> first | (exfalso; omega) | rfl))
        refine takeP 13 (v := ?qav13) (fun _ => trivial) (by rfl) (by kernel_rfl) (.inl ⟨by kernel_rfl, fun w1 _ => ?qay13⟩) ?_
        case qay13 => (go_simp; try first | rfl | (rw [if_pos (by omega)]) | (rw [if_neg (by omega)]) | (rw [if_neg (by simp; omega)]) | (split <;> first | (exfalso; omega) | rfl))
        refine takeP 14 (v := ?qav14) (fun _ => trivial) (by rfl) (by kernel_rfl) (.inl ⟨by kernel_rfl, fun w1 _ => ?qay14⟩) ?_
        case qay14 => (go_simp; try first | rfl | (rw [if_pos (by omega)]) | (rw [if_neg (by omega)]) | (rw [if_neg (by simp; omega)]) | (split <;> first | (exfalso; omega) | rfl))
        refine takeP 15 (v := ?qav15) (fun _ => trivial) (by rfl) (by kernel_rfl) (.inl ⟨by kernel_rfl, fun w1 _ => ?qay15⟩) ?_
        case qay15 => (go_simp; try first | rfl | (rw [if_pos (by omega)]) | (rw [if_neg (by omega)]) | (rw [if_neg (by simp; omega)]) | (split <;> first | (exfalso; omega) | rfl))
        obtain ⟨vo1, vw1, o1, cap1, hcell1, hfz1, hbl1, _⟩ := HR1.out.cells
        have c21 := hcell1 2 _ rfl
        clear hcell1
        refine oneH 16 (by rfl) (by kernel_rfl) (fun K hK => ?_)
        gi_wp2_with fail
        obtain ⟨W3, hW3, HR3, HK3⟩ : ∃ W3, w'.setCell ⟨w.heap.size + 3, 2, none⟩ (.bool false) = W3 ∧ Hid (Tk.Rdr (Zn w.heap.size) (w.heap.size + 3) (st.begin []) n true W3) ∧ Hid (Keep (Zn w.heap.size) W W3) := by
          refine ⟨_, rfl, Lib.hid ?_, Lib.hid (HK1.out.setCell (fun h => h.2 rfl) _)⟩
          have : st.begin [] = { st with blank := false } := by unfold Tk.St.begin; rw [if_pos HO.out]; first | rfl | simp [Tk.isBlank, hc32, hc9]
          rw [this]; exact HR1.out.blank false
        rw [hW3]
        refine hK _ _ (fun h => absurd h (by decide)) ?_
        clear hK K hW3 hS c21
        refine doneH (by kernel_rfl) ?_
        have hp3 := (HM.out.keep HK3.out).pb.cell
        gi_wp2_with fail
        clear hp3
        refine (CallsIn.inRound _ (callsIn_wide.2 (tread_any _ _ _ _ _ _ _ HR3.out HB3.out.1 HB3.out.2.1 HB3.out.2.2))).mono ?_
        rintro e w4 ⟨hk4, (⟨st', hrd, rfl, hr4, ho4, hw4, hout4⟩ | ⟨z, hrd, hz, rfl⟩)⟩
        · have HK4 := Lib.hid (HK3.out.trans hk4)
          have HM4 := Lib.hid (HM.out.keep HK4.out)
          have HE4 := Lib.hid (HOKE.out st' hrd)
          have HG4 := Lib.hid (HGB.out st' hrd)
          have HR4 := Lib.hid hr4
          have hp4 := HM4.out.pb.cell
          obtain ⟨vo', vw', o', cap', hcell4, hfz4, hbl4, _⟩ := hr4.cells
          have c64 := hcell4 6 _ rfl
          clear hrd hr4 hk4 hcell4
          by_cases hopn4 : st'.opens = []
          · have HO4 := Lib.hid hopn4
            rw [hopn4] at c64
            clear hopn4
            gi_wp2_with fail
            refine (CallsIn.inRound _ (callsIn_wide.2 (tend_any _ _ st' n true _ HR4.out (by omega) (by omega)))).mono ?_
            rintro e w5 ⟨rfl, hr5, hk5⟩
            gi_wp2_with fail
            have hfin : st'.fin = st'.endE := by unfold Tk.St.fin; rw [if_pos HO4.out]
            have K := HK4.out.trans hk5
            have hE := HE4.out
            have hG := HG4.out
            rw [hfin] at hE hG
            exact ⟨K.others, ⟨K.size, K.block _ ⟨by omega, by omega⟩⟩, st'.endE, n, hE, by rw [show decide (st'.endE.opens ≠ []) = false by simp [Tk.St.endE, HO4.out]]; exact hr5, HM4.out.keep hk5, hG.1, hG.2.1, hG.2.2⟩
          · have HO4 := Lib.hid hopn4
            have hln : ((st'.opens.length : Int) == 0) = false := by rw [beq_eq_false_iff_ne]; have := List.length_pos_iff.2 hopn4; omega
            clear hopn4
            gi_wp2_with fail
            have hfin : st'.fin = st' := by unfold Tk.St.fin; rw [if_neg HO4.out]
            have K := HK4.out
            have hE := HE4.out
            have hG := HG4.out
            rw [hfin] at hE hG
            exact ⟨K.others, ⟨K.size, K.block _ ⟨by omega, by omega⟩⟩, st', n, hE, by rw [show decide (st'.opens ≠ []) = true by simp [HO4.out]]; exact HR4.out, HM4.out, hG.1, hG.2.1, hG.2.2⟩
        · have HK4 := Lib.hid (HK3.out.trans hk4)
          have HM4 := Lib.hid (HM.out.keep HK4.out)
          have HE4 := Lib.hid (HER.out z hrd)
          have hz' : (z != 0) = true := by simpa using hz
          have q0 := HM4.out.r0.cell
          have q1 := HM4.out.r1.cell
          have q2 := HM4.out.r2.cell
          have f0 := HM4.out.r0.frozen
          have f1 := HM4.out.r1.frozen
          have f2 := HM4.out.r2.frozen
          clear hrd hk4 hz
          gi_wp2_with fail
          have hM4 := HM4.out
          have h8 := HK4.out.size
          refine ⟨((HK4.out.others.trans (KeepsOthers.setCell _ _ _)).trans (KeepsOthers.setCell _ _ _)).trans (KeepsOthers.setCell _ _ _), rfl, n, z, by unfold Tk.entries; rw [HE4.out]; rfl, ?_, ?_, ?_, ?_, by simp [World.setCell]; omega⟩
          · exact ((hM4.r0.set _).setOther (by omega) _).setOther (by omega) _
          · exact ((hM4.r1.setOther (by omega) _).set _).setOther (by omega) _
          · exact ((hM4.r2.setOther (by omega) _).setOther (by omega) _).set _
          · exact ((hM4.below.setCell (p := ⟨w.heap.size, 0, none⟩) (Nat.le_refl _) _).setCell (p := ⟨w.heap.size + 1, 0, none⟩) (by simp) _).setCell (p := ⟨w.heap.size + 2, 0, none⟩) (by simp) _
      · have hrl : (r.length : Int) + 1 ≤ 800000 := by have := HB3.out.2.1; have := HL.out.1; have := HWL.out; simp at *; omega
        gi_wp2_with fail
        refine drawnH [0] (fun w' => w'.cell? ⟨w.heap.size + 4, 0, none⟩ = some (.pointer (some ⟨w.heap.size + 3, 0, none⟩))) 17 rfl (by kernel_rfl) ?_
        intro w' hw'
        obtain ⟨HM1, HR1, HK1⟩ : Hid (EnM w.heap.size w w') ∧ Hid (Tk.Rdr (Zn w.heap.size) (w.heap.size + 3) st n true w') ∧ Hid (Keep (Zn w.heap.size) W w') := by
          subst hw'
          have K := (((Keep.refl (Zn w.heap.size) W).setCell (p := ⟨w.heap.size + 3, 4, none⟩) (fun h => h.2 rfl) (.int .i64 n)).setCell (p := ⟨w.heap.size + 3, 5, none⟩) (fun h => h.2 rfl) (.bool true)).drew
          exact ⟨Lib.hid (HM.out.keep K), Lib.hid ((HR.out.line n).bg true).drew, Lib.hid K⟩
        clear hw' c2 c4 c5 p0
        have hS : w'.cell? ⟨w.heap.size + 4, 0, none⟩ = some (.pointer (some ⟨w.heap.size + 3, 0, none⟩)) := HM1.out.pb.cell
        refine takeP 1 (v := ?qbv1) (fun _ => trivial) (by rfl) (by kernel_rfl) (.inl ⟨by kernel_rfl, fun w1 _ => ?qby1⟩) ?_
        case qby1 => (go_simp; try first | rfl | (rw [if_pos (by omega)]) | (rw [if_neg (by omega)]) | (rw [if_neg (by simp; omega)]) | (split <;> first | (exfalso; omega) | rfl))
        refine takeP 2 (v := ?qbv2) (fun _ => trivial) (by rfl) (by kernel_rfl) (.inl ⟨by kernel_rfl, fun w1 _ => ?qby2⟩) ?_
        case qby2 => (go_simp; try first | rfl | (rw [if_pos (by omega)]) | (rw [if_neg (by omega)]) | (rw [if_neg (by simp; omega)]) | (split <;> first | (exfalso; omega) | rfl))
        refine takeP 3 (v := ?qbv3) (fun _ => trivial) (by rfl) (by kernel_rfl) (.inl ⟨by kernel_rfl, fun w1 _ => ?qby3⟩) ?_
        case qby3 => (go_simp; try first | rfl | (rw [if_pos (by omega)]) | (rw [if_neg (by omega)]) | (rw [if_neg (by simp; omega)]) | (split <;> first | (exfalso; omega) | rfl))
        refine takeP 4 (v := ?qbv4) (fun _ => trivial) (by rfl) (by kernel_rfl) (.inl ⟨by kernel_rfl, fun w1 _ => ?qby4⟩) ?_
        case qby4 => (go_simp; try first | rfl | (rw [if_pos (by omega)]) | (rw [if_neg (by omega)]) | (rw [if_neg (by simp; omega)]) | (split <;> first | (exfalso; omega) | rfl))
        refine takeP 5 (v := ?qbv5) (fun _ => trivial) (by rfl) (by kernel_rfl) (.inl ⟨by kernel_rfl, fun w1 _ => ?qby5⟩) ?_
        case qby5 => (go_simp; try first | rfl | (rw [if_pos (by omega)]) | (rw [if_neg (by omega)]) | (rw [if_neg (by simp; omega)]) | (split <;> first | (exfalso; omega) | rfl))
        refine takeP 6 (v := ?qbv6) (fun _ => trivial) (by rfl) (by kernel_rfl) (.inl ⟨by kernel_rfl, fun w1 _ => ?qby6⟩) ?_
        case qby6 => (go_simp; try first | rfl | (rw [if_pos (by omega)]) | (rw [if_neg (by omega)]) | (rw [if_neg (by simp; omega)]) | (split <;> first | (exfalso; omega) | rfl))
        refine takeP 7 (v := ?qbv7) (fun _ => trivial) (by rfl) (by kernel_rfl) (.inl ⟨by kernel_rfl, fun w1 _ => ?qby7⟩) ?_
        case qby7 => (go_simp; try first | rfl | (rw [if_pos (by omega)]) | (rw [if_neg (by omega)]) | (rw [if_neg (by simp; omega)]) | (split <;> first | (exfalso; omega) | rfl))
        refine takeP 8 (v := undef) (fun _ => trivial) (by rfl) (by kernel_rfl) (.inr ⟨by kernel_rfl, rfl⟩) ?_
        refine takeP 9 (v := undef) (fun _ => trivial) (by rfl) (by kernel_rfl) (.inr ⟨by kernel_rfl, rfl⟩) ?_
        refine takeP 10 (v := undef) (fun _ => trivial) (by rfl) (by kernel_rfl) (.inr ⟨by kernel_rfl, rfl⟩) ?_
        refine takeP 11 (v := ?qbv11) (fun _ => trivial) (by rfl) (by kernel_rfl) (.inl ⟨by kernel_rfl, fun w1 _ => ?qby11⟩) ?_
        case qby11 => (go_simp; try first | rfl | (rw [if_pos (by omega)]) | (rw [if_neg (by omega)]) | (rw [if_neg (by simp; omega)]) | (split <;> first | (exfalso; omega) | rfl))
        refine takeP 12 (v := ?qbv12) (fun _ => trivial) (by rfl) (by kernel_rfl) (.inl ⟨by kernel_rfl, fun w1 _ => ?qby12⟩) ?_
        case qby12 => (go_simp; try first | rfl | (rw [if_pos (by omega)]) | (rw [if_neg (by omega)]) | (rw [if_neg (by simp; omega)]) | (split <;> first | (exfalso; omega) | rfl))
        refine takeH 0 (v := ?qbv0) (fun _ => trivial) (by rfl) (by kernel_rfl) hS (.inl ⟨by kernel_rfl, fun w1 a1 => ?qby0⟩) ?_
        case qby0 => (go_simp; try first | rfl | (rw [if_pos (by omega)]) | (rw [if_neg (by omega)]) | (rw [if_neg (by simp; omega)]) | (split <;> first | (exfalso; omega) | rfl))
        refine takeP 13 (v := ?qbv13) (fun _ => trivial) (by rfl) (by kernel_rfl) (.inl ⟨by kernel_rfl, fun w1 _ => ?qby13⟩) ?_
        case qby13 => (go_simp; try first | rfl | (rw [if_pos (by omega)]) | (rw [if_neg (by omega)]) | (rw [if_neg (by simp; omega)]) | (split <;> first | (exfalso; omega) | rfl))
        refine takeP 14 (v := ?qbv14) (fun _ => trivial) (by rfl) (by kernel_rfl) (.inl ⟨by kernel_rfl, fun w1 _ => ?qby14⟩) ?_
        case qby14 => (go_simp; try first | rfl | (rw [if_pos (by omega)]) | (rw [if_neg (by omega)]) | (rw [if_neg (by simp; omega)]) | (split <;> first | (exfalso; omega) | rfl))
        refine takeP 15 (v := ?qbv15) (fun _ => trivial) (by rfl) (by kernel_rfl) (.inl ⟨by kernel_rfl, fun w1 _ => ?qby15⟩) ?_
        case qby15 => (go_simp; try first | rfl | (rw [if_pos (by omega)]) | (rw [if_neg (by omega)]) | (rw [if_neg (by simp; omega)]) | (split <;> first | (exfalso; omega) | rfl))
        obtain ⟨vo1, vw1, o1, cap1, hcell1, hfz1, hbl1, _⟩ := HR1.out.cells
        have c21 := hcell1 2 _ rfl
        clear hcell1
        refine oneH 16 (by rfl) (by kernel_rfl) (fun K hK => ?_)
        gi_wp2_with fail
        obtain ⟨W3, hW3, HR3, HK3⟩ : ∃ W3, w'.setCell ⟨w.heap.size + 3, 2, none⟩ (.bool true) = W3 ∧ Hid (Tk.Rdr (Zn w.heap.size) (w.heap.size + 3) (st.begin (32 :: r)) n true W3) ∧ Hid (Keep (Zn w.heap.size) W W3) := by
          refine ⟨_, rfl, Lib.hid ?_, Lib.hid (HK1.out.setCell (fun h => h.2 rfl) _)⟩
          have : st.begin (32 :: r) = { st with blank := true } := by unfold Tk.St.begin; rw [if_pos HO.out]; rfl
          rw [this]; exact HR1.out.blank true
        rw [hW3]
        refine hK _ _ (fun h => absurd h (by decide)) ?_
        clear hK K hW3 hS c21
        refine doneH (by kernel_rfl) ?_
        have hp3 := (HM.out.keep HK3.out).pb.cell
        gi_wp2_with fail
        clear hp3
        refine (CallsIn.inRound _ (callsIn_wide.2 (tread_any _ _ _ _ _ _ _ HR3.out HB3.out.1 HB3.out.2.1 HB3.out.2.2))).mono ?_
        rintro e w4 ⟨hk4, (⟨st', hrd, rfl, hr4, ho4, hw4, hout4⟩ | ⟨z, hrd, hz, rfl⟩)⟩
        · have HK4 := Lib.hid (HK3.out.trans hk4)
          have HM4 := Lib.hid (HM.out.keep HK4.out)
          have HE4 := Lib.hid (HOKE.out st' hrd)
          have HG4 := Lib.hid (HGB.out st' hrd)
          have HR4 := Lib.hid hr4
          have hp4 := HM4.out.pb.cell
          obtain ⟨vo', vw', o', cap', hcell4, hfz4, hbl4, _⟩ := hr4.cells
          have c64 := hcell4 6 _ rfl
          clear hrd hr4 hk4 hcell4
          by_cases hopn4 : st'.opens = []
          · have HO4 := Lib.hid hopn4
            rw [hopn4] at c64
            clear hopn4
            gi_wp2_with fail
            refine (CallsIn.inRound _ (callsIn_wide.2 (tend_any _ _ st' n true _ HR4.out (by omega) (by omega)))).mono ?_
            rintro e w5 ⟨rfl, hr5, hk5⟩
            gi_wp2_with fail
            have hfin : st'.fin = st'.endE := by unfold Tk.St.fin; rw [if_pos HO4.out]
            have K := HK4.out.trans hk5
            have hE := HE4.out
            have hG := HG4.out
            rw [hfin] at hE hG
            exact ⟨K.others, ⟨K.size, K.block _ ⟨by omega, by omega⟩⟩, st'.endE, n, hE, by rw [show decide (st'.endE.opens ≠ []) = false by simp [Tk.St.endE, HO4.out]]; exact hr5, HM4.out.keep hk5, hG.1, hG.2.1, hG.2.2⟩
          · have HO4 := Lib.hid hopn4
            have hln : ((st'.opens.length : Int) == 0) = false := by rw [beq_eq_false_iff_ne]; have := List.length_pos_iff.2 hopn4; omega
            clear hopn4
            gi_wp2_with fail
            have hfin : st'.fin = st' := by unfold Tk.St.fin; rw [if_neg HO4.out]
            have K := HK4.out
            have hE := HE4.out
            have hG := HG4.out
            rw [hfin] at hE hG
            exact ⟨K.others, ⟨K.size, K.block _ ⟨by omega, by omega⟩⟩, st', n, hE, by rw [show decide (st'.opens ≠ []) = true by simp [HO4.out]]; exact HR4.out, HM4.out, hG.1, hG.2.1, hG.2.2⟩
        · have HK4 := Lib.hid (HK3.out.trans hk4)
          have HM4 := Lib.hid (HM.out.keep HK4.out)
          have HE4 := Lib.hid (HER.out z hrd)
          have hz' : (z != 0) = true := by simpa using hz
          have q0 := HM4.out.r0.cell
          have q1 := HM4.out.r1.cell
          have q2 := HM4.out.r2.cell
          have f0 := HM4.out.r0.frozen
          have f1 := HM4.out.r1.frozen
          have f2 := HM4.out.r2.frozen
          clear hrd hk4 hz
          gi_wp2_with fail
          have hM4 := HM4.out
          have h8 := HK4.out.size
          refine ⟨((HK4.out.others.trans (KeepsOthers.setCell _ _ _)).trans (KeepsOthers.setCell _ _ _)).trans (KeepsOthers.setCell _ _ _), rfl, n, z, by unfold Tk.entries; rw [HE4.out]; rfl, ?_, ?_, ?_, ?_, by simp [World.setCell]; omega⟩
          · exact ((hM4.r0.set _).setOther (by omega) _).setOther (by omega) _
          · exact ((hM4.r1.setOther (by omega) _).set _).setOther (by omega) _
          · exact ((hM4.r2.setOther (by omega) _).setOther (by omega) _).set _
          · exact ((hM4.below.setCell (p := ⟨w.heap.size, 0, none⟩) (Nat.le_refl _) _).setCell (p := ⟨w.heap.size + 1, 0, none⟩) (by simp) _).setCell (p := ⟨w.heap.size + 2, 0, none⟩) (by simp) _
      · have hrl : (r.length : Int) + 1 ≤ 800000 := by have := HB3.out.2.1; have := HL.out.1; have := HWL.out; simp at *; omega
        gi_wp2_with fail
        refine drawnH [0] (fun w' => w'.cell? ⟨w.heap.size + 4, 0, none⟩ = some (.pointer (some ⟨w.heap.size + 3, 0, none⟩))) 17 rfl (by kernel_rfl) ?_
        intro w' hw'
        obtain ⟨HM1, HR1, HK1⟩ : Hid (EnM w.heap.size w w') ∧ Hid (Tk.Rdr (Zn w.heap.size) (w.heap.size + 3) st n true w') ∧ Hid (Keep (Zn w.heap.size) W w') := by
          subst hw'
          have K := (((Keep.refl (Zn w.heap.size) W).setCell (p := ⟨w.heap.size + 3, 4, none⟩) (fun h => h.2 rfl) (.int .i64 n)).setCell (p := ⟨w.heap.size + 3, 5, none⟩) (fun h => h.2 rfl) (.bool true)).drew
          exact ⟨Lib.hid (HM.out.keep K), Lib.hid ((HR.out.line n).bg true).drew, Lib.hid K⟩
        clear hw' c2 c4 c5 p0
        have hS : w'.cell? ⟨w.heap.size + 4, 0, none⟩ = some (.pointer (some ⟨w.heap.size + 3, 0, none⟩)) := HM1.out.pb.cell
        refine takeP 1 (v := ?qcv1) (fun _ => trivial) (by rfl) (by kernel_rfl) (.inl ⟨by kernel_rfl, fun w1 _ => ?qcy1⟩) ?_
        case qcy1 => (go_simp; try first | rfl | (rw [if_pos (by omega)]) | (rw [if_neg (by omega)]) | (rw [if_neg (by simp; omega)]) | (split <;> first | (exfalso; omega) | rfl))
        refine takeP 2 (v := ?qcv2) (fun _ => trivial) (by rfl) (by kernel_rfl) (.inl ⟨by kernel_rfl, fun w1 _ => ?qcy2⟩) ?_
        case qcy2 => (go_simp; try first | rfl | (rw [if_pos (by omega)]) | (rw [if_neg (by omega)]) | (rw [if_neg (by simp; omega)]) | (split <;> first | (exfalso; omega) | rfl))
        refine takeP 3 (v := ?qcv3) (fun _ => trivial) (by rfl) (by kernel_rfl) (.inl ⟨by kernel_rfl, fun w1 _ => ?qcy3⟩) ?_
        case qcy3 => (go_simp; try first | rfl | (rw [if_pos (by omega)]) | (rw [if_neg (by omega)]) | (rw [if_neg (by simp; omega)]) | (split <;> first | (exfalso; omega) | rfl))
        refine takeP 4 (v := ?qcv4) (fun _ => trivial) (by rfl) (by kernel_rfl) (.inl ⟨by kernel_rfl, fun w1 _ => ?qcy4⟩) ?_
        case qcy4 => (go_simp; try first | rfl | (rw [if_pos (by omega)]) | (rw [if_neg (by omega)]) | (rw [if_neg (by simp; omega)]) | (split <;> first | (exfalso; omega) | rfl))
        refine takeP 5 (v := ?qcv5) (fun _ => trivial) (by rfl) (by kernel_rfl) (.inl ⟨by kernel_rfl, fun w1 _ => ?qcy5⟩) ?_
        case qcy5 => (go_simp; try first | rfl | (rw [if_pos (by omega)]) | (rw [if_neg (by omega)]) | (rw [if_neg (by simp; omega)]) | (split <;> first | (exfalso; omega) | rfl))
        refine takeP 6 (v := ?qcv6) (fun _ => trivial) (by rfl) (by kernel_rfl) (.inl ⟨by kernel_rfl, fun w1 _ => ?qcy6⟩) ?_
        case qcy6 => (go_simp; try first | rfl | (rw [if_pos (by omega)]) | (rw [if_neg (by omega)]) | (rw [if_neg (by simp; omega)]) | (split <;> first | (exfalso; omega) | rfl))
        refine takeP 7 (v := ?qcv7) (fun _ => trivial) (by rfl) (by kernel_rfl) (.inl ⟨by kernel_rfl, fun w1 _ => ?qcy7⟩) ?_
        case qcy7 => (go_simp; try first | rfl | (rw [if_pos (by omega)]) | (rw [if_neg (by omega)]) | (rw [if_neg (by simp; omega)]) | (split <;> first | (exfalso; omega) | rfl))
        refine takeP 8 (v := ?qcv8) (fun _ => trivial) (by rfl) (by kernel_rfl) (.inl ⟨by kernel_rfl, fun w1 _ => ?qcy8⟩) ?_
        case qcy8 => (go_simp; try first | rfl | (rw [if_pos (by omega)]) | (rw [if_neg (by omega)]) | (rw [if_neg (by simp; omega)]) | (split <;> first | (exfalso; omega) | rfl))
        refine takeP 9 (v := ?qcv9) (fun _ => trivial) (by rfl) (by kernel_rfl) (.inl ⟨by kernel_rfl, fun w1 _ => ?qcy9⟩) ?_
        case qcy9 => (go_simp; try first | rfl | (rw [if_pos (by omega)]) | (rw [if_neg (by omega)]) | (rw [if_neg (by simp; omega)]) | (split <;> first | (exfalso; omega) | rfl))
        refine takeP 10 (v := ?qcv10) (fun _ => trivial) (by rfl) (by kernel_rfl) (.inl ⟨by kernel_rfl, fun w1 _ => ?qcy10⟩) ?_
        case qcy10 => (go_simp; try first | rfl | (rw [if_pos (by omega)]) | (rw [if_neg (by omega)]) | (rw [if_neg (by simp; omega)]) | (split <;> first | (exfalso; omega) | rfl))
        refine takeP 11 (v := ?qcv11) (fun _ => trivial) (by rfl) (by kernel_rfl) (.inl ⟨by kernel_rfl, fun w1 _ => ?qcy11⟩) ?_
        case qcy11 => (go_simp; try first | rfl | (rw [if_pos (by omega)]) | (rw [if_neg (by omega)]) | (rw [if_neg (by simp; omega)]) | (split <;> first | (exfalso; omega) | rfl))
        refine takeP 12 (v := ?qcv12) (fun _ => trivial) (by rfl) (by kernel_rfl) (.inl ⟨by kernel_rfl, fun w1 _ => ?qcy12⟩) ?_
        case qcy12 => (go_simp; try first | rfl | (rw [if_pos (by omega)]) | (rw [if_neg (by omega)]) | (rw [if_neg (by simp; omega)]) | (split <;> first | (exfalso; omega) | rfl))
        refine takeH 0 (v := ?qcv0) (fun _ => trivial) (by rfl) (by kernel_rfl) hS (.inl ⟨by kernel_rfl, fun w1 a1 => ?qcy0⟩) ?_
        case qcy0 => (go_simp; try first | rfl | (rw [if_pos (by omega)]) | (rw [if_neg (by omega)]) | (rw [if_neg (by simp; omega)]) | (split <;> first | (exfalso; omega) | rfl))
        refine takeP 13 (v := ?qcv13) (fun _ => trivial) (by rfl) (by kernel_rfl) (.inl ⟨by kernel_rfl, fun w1 _ => ?qcy13⟩) ?_
        case qcy13 => (go_simp; try first | rfl | (rw [if_pos (by omega)]) | (rw [if_neg (by omega)]) | (rw [if_neg (by simp; omega)]) | (split <;> first | (exfalso; omega) | rfl))
        refine takeP 14 (v := ?qcv14) (fun _ => trivial) (by rfl) (by kernel_rfl) (.inl ⟨by kernel_rfl, fun w1 _ => ?qcy14⟩) ?_
        case qcy14 => (go_simp; try first | rfl | (rw [if_pos (by omega)]) | (rw [if_neg (by omega)]) | (rw [if_neg (by simp; omega)]) | (split <;> first | (exfalso; omega) | rfl))
        refine takeP 15 (v := ?qcv15) (fun _ => trivial) (by rfl) (by kernel_rfl) (.inl ⟨by kernel_rfl, fun w1 _ => ?qcy15⟩) ?_
        case qcy15 => (go_simp; try first | rfl | (rw [if_pos (by omega)]) | (rw [if_neg (by omega)]) | (rw [if_neg (by simp; omega)]) | (split <;> first | (exfalso; omega) | rfl))
        obtain ⟨vo1, vw1, o1, cap1, hcell1, hfz1, hbl1, _⟩ := HR1.out.cells
        have c21 := hcell1 2 _ rfl
        clear hcell1
        refine oneH 16 (by rfl) (by kernel_rfl) (fun K hK => ?_)
        gi_wp2_with fail
        obtain ⟨W3, hW3, HR3, HK3⟩ : ∃ W3, w'.setCell ⟨w.heap.size + 3, 2, none⟩ (.bool true) = W3 ∧ Hid (Tk.Rdr (Zn w.heap.size) (w.heap.size + 3) (st.begin (9 :: r)) n true W3) ∧ Hid (Keep (Zn w.heap.size) W W3) := by
          refine ⟨_, rfl, Lib.hid ?_, Lib.hid (HK1.out.setCell (fun h => h.2 rfl) _)⟩
          have : st.begin (9 :: r) = { st with blank := true } := by unfold Tk.St.begin; rw [if_pos HO.out]; rfl
          rw [this]; exact HR1.out.blank true
        rw [hW3]
        refine hK _ _ (fun h => absurd h (by decide)) ?_
        clear hK K hW3 hS c21
        refine doneH (by kernel_rfl) ?_
        have hp3 := (HM.out.keep HK3.out).pb.cell
        gi_wp2_with fail
        clear hp3
        refine (CallsIn.inRound _ (callsIn_wide.2 (tread_any _ _ _ _ _ _ _ HR3.out HB3.out.1 HB3.out.2.1 HB3.out.2.2))).mono ?_
        rintro e w4 ⟨hk4, (⟨st', hrd, rfl, hr4, ho4, hw4, hout4⟩ | ⟨z, hrd, hz, rfl⟩)⟩
        · have HK4 := Lib.hid (HK3.out.trans hk4)
          have HM4 := Lib.hid (HM.out.keep HK4.out)
          have HE4 := Lib.hid (HOKE.out st' hrd)
          have HG4 := Lib.hid (HGB.out st' hrd)
          have HR4 := Lib.hid hr4
          have hp4 := HM4.out.pb.cell
          obtain ⟨vo', vw', o', cap', hcell4, hfz4, hbl4, _⟩ := hr4.cells
          have c64 := hcell4 6 _ rfl
          clear hrd hr4 hk4 hcell4
          by_cases hopn4 : st'.opens = []
          · have HO4 := Lib.hid hopn4
            rw [hopn4] at c64
            clear hopn4
            gi_wp2_with fail
            refine (CallsIn.inRound _ (callsIn_wide.2 (tend_any _ _ st' n true _ HR4.out (by omega) (by omega)))).mono ?_
            rintro e w5 ⟨rfl, hr5, hk5⟩
            gi_wp2_with fail
            have hfin : st'.fin = st'.endE := by unfold Tk.St.fin; rw [if_pos HO4.out]
            have K := HK4.out.trans hk5
            have hE := HE4.out
            have hG := HG4.out
            rw [hfin] at hE hG
            exact ⟨K.others, ⟨K.size, K.block _ ⟨by omega, by omega⟩⟩, st'.endE, n, hE, by rw [show decide (st'.endE.opens ≠ []) = false by simp [Tk.St.endE, HO4.out]]; exact hr5, HM4.out.keep hk5, hG.1, hG.2.1, hG.2.2⟩
          · have HO4 := Lib.hid hopn4
            have hln : ((st'.opens.length : Int) == 0) = false := by rw [beq_eq_false_iff_ne]; have := List.length_pos_iff.2 hopn4; omega
            clear hopn4
            gi_wp2_with fail
            have hfin : st'.fin = st' := by unfold Tk.St.fin; rw [if_neg HO4.out]
            have K := HK4.out
            have hE := HE4.out
            have hG := HG4.out
            rw [hfin] at hE hG
            exact ⟨K.others, ⟨K.size, K.block _ ⟨by omega, by omega⟩⟩, st', n, hE, by rw [show decide (st'.opens ≠ []) = true by simp [HO4.out]]; exact HR4.out, HM4.out, hG.1, hG.2.1, hG.2.2⟩
        · have HK4 := Lib.hid (HK3.out.trans hk4)
          have HM4 := Lib.hid (HM.out.keep HK4.out)
          have HE4 := Lib.hid (HER.out z hrd)
          have hz' : (z != 0) = true := by simpa using hz
          have q0 := HM4.out.r0.cell
          have q1 := HM4.out.r1.cell
          have q2 := HM4.out.r2.cell
          have f0 := HM4.out.r0.frozen
          have f1 := HM4.out.r1.frozen
          have f2 := HM4.out.r2.frozen
          clear hrd hk4 hz
          gi_wp2_with fail
          have hM4 := HM4.out
          have h8 := HK4.out.size
          refine ⟨((HK4.out.others.trans (KeepsOthers.setCell _ _ _)).trans (KeepsOthers.setCell _ _ _)).trans (KeepsOthers.setCell _ _ _), rfl, n, z, by unfold Tk.entries; rw [HE4.out]; rfl, ?_, ?_, ?_, ?_, by simp [World.setCell]; omega⟩
          · exact ((hM4.r0.set _).setOther (by omega) _).setOther (by omega) _
          · exact ((hM4.r1.setOther (by omega) _).set _).setOther (by omega) _
          · exact ((hM4.r2.setOther (by omega) _).setOther (by omega) _).set _
          · exact ((hM4.below.setCell (p := ⟨w.heap.size, 0, none⟩) (Nat.le_refl _) _).setCell (p := ⟨w.heap.size + 1, 0, none⟩) (by simp) _).setCell (p := ⟨w.heap.size + 2, 0, none⟩) (by simp) _
      · have hrl : (r.length : Int) + 1 ≤ 800000 := by have := HB3.out.2.1; have := HL.out.1; have := HWL.out; simp at *; omega
        obtain ⟨e1, e2⟩ := tk_bne (n := 32) (b := 32) rfl hc32
        obtain ⟨e3, e4⟩ := tk_bne (n := 9) (b := 9) rfl hc9
        gi_wp2_with fail
        refine drawnH [0] (fun w' => w'.cell? ⟨w.heap.size + 4, 0, none⟩ = some (.pointer (some ⟨w.heap.size + 3, 0, none⟩))) 17 rfl (by kernel_rfl) ?_
        intro w' hw'
        obtain ⟨HM1, HR1, HK1⟩ : Hid (EnM w.heap.size w w') ∧ Hid (Tk.Rdr (Zn w.heap.size) (w.heap.size + 3) st n true w') ∧ Hid (Keep (Zn w.heap.size) W w') := by
          subst hw'
          have K := (((Keep.refl (Zn w.heap.size) W).setCell (p := ⟨w.heap.size + 3, 4, none⟩) (fun h => h.2 rfl) (.int .i64 n)).setCell (p := ⟨w.heap.size + 3, 5, none⟩) (fun h => h.2 rfl) (.bool true)).drew
          exact ⟨Lib.hid (HM.out.keep K), Lib.hid ((HR.out.line n).bg true).drew, Lib.hid K⟩
        clear hw' c2 c4 c5 p0
        have hS : w'.cell? ⟨w.heap.size + 4, 0, none⟩ = some (.pointer (some ⟨w.heap.size + 3, 0, none⟩)) := HM1.out.pb.cell
        refine takeP 1 (v := ?qdv1) (fun _ => trivial) (by rfl) (by kernel_rfl) (.inl ⟨by kernel_rfl, fun w1 _ => ?qdy1⟩) ?_
        case qdy1 => (go_simp; try first | rfl | (rw [if_pos (by omega)]) | (rw [if_neg (by omega)]) | (rw [if_neg (by simp; omega)]) | (split <;> first | (exfalso; omega) | rfl))
        refine takeP 2 (v := ?qdv2) (fun _ => trivial) (by rfl) (by kernel_rfl) (.inl ⟨by kernel_rfl, fun w1 _ => ?qdy2⟩) ?_
        case qdy2 => (go_simp; try first | rfl | (rw [if_pos (by omega)]) | (rw [if_neg (by omega)]) | (rw [if_neg (by simp; omega)]) | (split <;> first | (exfalso; omega) | rfl))
        refine takeP 3 (v := ?qdv3) (fun _ => trivial) (by rfl) (by kernel_rfl) (.inl ⟨by kernel_rfl, fun w1 _ => ?qdy3⟩) ?_
        case qdy3 => (go_simp; try first | rfl | (rw [if_pos (by omega)]) | (rw [if_neg (by omega)]) | (rw [if_neg (by simp; omega)]) | (split <;> first | (exfalso; omega) | rfl))
        refine takeP 4 (v := ?qdv4) (fun _ => trivial) (by rfl) (by kernel_rfl) (.inl ⟨by kernel_rfl, fun w1 _ => ?qdy4⟩) ?_
        case qdy4 => (go_simp; try first | rfl | (rw [if_pos (by omega)]) | (rw [if_neg (by omega)]) | (rw [if_neg (by simp; omega)]) | (split <;> first | (exfalso; omega) | rfl))
        refine takeP 5 (v := ?qdv5) (fun _ => trivial) (by rfl) (by kernel_rfl) (.inl ⟨by kernel_rfl, fun w1 _ => ?qdy5⟩) ?_
        case qdy5 => (go_simp; try first | rfl | (rw [if_pos (by omega)]) | (rw [if_neg (by omega)]) | (rw [if_neg (by simp; omega)]) | (split <;> first | (exfalso; omega) | rfl))
        refine takeP 6 (v := ?qdv6) (fun _ => trivial) (by rfl) (by kernel_rfl) (.inl ⟨by kernel_rfl, fun w1 _ => ?qdy6⟩) ?_
        case qdy6 => (go_simp; try first | rfl | (rw [if_pos (by omega)]) | (rw [if_neg (by omega)]) | (rw [if_neg (by simp; omega)]) | (split <;> first | (exfalso; omega) | rfl))
        refine takeP 7 (v := ?qdv7) (fun _ => trivial) (by rfl) (by kernel_rfl) (.inl ⟨by kernel_rfl, fun w1 _ => ?qdy7⟩) ?_
        case qdy7 => (go_simp; try first | rfl | (rw [if_pos (by omega)]) | (rw [if_neg (by omega)]) | (rw [if_neg (by simp; omega)]) | (split <;> first | (exfalso; omega) | rfl))
        refine takeP 8 (v := ?qdv8) (fun _ => trivial) (by rfl) (by kernel_rfl) (.inl ⟨by kernel_rfl, fun w1 _ => ?qdy8⟩) ?_
        case qdy8 => (go_simp; try first | rfl | (rw [if_pos (by omega)]) | (rw [if_neg (by omega)]) | (rw [if_neg (by simp; omega)]) | (split <;> first | (exfalso; omega) | rfl))
        refine takeP 9 (v := ?qdv9) (fun _ => trivial) (by rfl) (by kernel_rfl) (.inl ⟨by kernel_rfl, fun w1 _ => ?qdy9⟩) ?_
        case qdy9 => (go_simp; try first | rfl | (rw [if_pos (by omega)]) | (rw [if_neg (by omega)]) | (rw [if_neg (by simp; omega)]) | (split <;> first | (exfalso; omega) | rfl))
        refine takeP 10 (v := ?qdv10) (fun _ => trivial) (by rfl) (by kernel_rfl) (.inl ⟨by kernel_rfl, fun w1 _ => ?qdy10⟩) ?_
        case qdy10 => (go_simp; try first | rfl | (rw [if_pos (by omega)]) | (rw [if_neg (by omega)]) | (rw [if_neg (by simp; omega)]) | (split <;> first | (exfalso; omega) | rfl))
        refine takeP 11 (v := ?qdv11) (fun _ => trivial) (by rfl) (by kernel_rfl) (.inl ⟨by kernel_rfl, fun w1 _ => ?qdy11⟩) ?_
        case qdy11 => (go_simp; try first | rfl | (rw [if_pos (by omega)]) | (rw [if_neg (by omega)]) | (rw [if_neg (by simp; omega)]) | (split <;> first | (exfalso; omega) | rfl))
        refine takeP 12 (v := ?qdv12) (fun _ => trivial) (by rfl) (by kernel_rfl) (.inl ⟨by kernel_rfl, fun w1 _ => ?qdy12⟩) ?_
        case qdy12 => (go_simp; try first | rfl | (rw [if_pos (by omega)]) | (rw [if_neg (by omega)]) | (rw [if_neg (by simp; omega)]) | (split <;> first | (exfalso; omega) | rfl))
        refine takeH 0 (v := ?qdv0) (fun _ => trivial) (by rfl) (by kernel_rfl) hS (.inl ⟨by kernel_rfl, fun w1 a1 => ?qdy0⟩) ?_
        case qdy0 => (go_simp; try first | rfl | (rw [if_pos (by omega)]) | (rw [if_neg (by omega)]) | (rw [if_neg (by simp; omega)]) | (split <;> first | (exfalso; omega) | rfl))
        refine takeP 13 (v := ?qdv13) (fun _ => trivial) (by rfl) (by kernel_rfl) (.inl ⟨by kernel_rfl, fun w1 _ => ?qdy13⟩) ?_
        case qdy13 => (go_simp; try first | rfl | (rw [if_pos (by omega)]) | (rw [if_neg (by omega)]) | (rw [if_neg (by simp; omega)]) | (split <;> first | (exfalso; omega) | rfl))
        refine takeP 14 (v := ?qdv14) (fun _ => trivial) (by rfl) (by kernel_rfl) (.inl ⟨by kernel_rfl, fun w1 _ => ?qdy14⟩) ?_
        case qdy14 => (go_simp; try first | rfl | (rw [if_pos (by omega)]) | (rw [if_neg (by omega)]) | (rw [if_neg (by simp; omega)]) | (split <;> first | (exfalso; omega) | rfl))
        refine takeP 15 (v := ?qdv15) (fun _ => trivial) (by rfl) (by kernel_rfl) (.inl ⟨by kernel_rfl, fun w1 _ => ?qdy15⟩) ?_
        case qdy15 => (go_simp; try first | rfl | (rw [if_pos (by omega)]) | (rw [if_neg (by omega)]) | (rw [if_neg (by simp; omega)]) | (split <;> first | (exfalso; omega) | rfl))
        obtain ⟨vo1, vw1, o1, cap1, hcell1, hfz1, hbl1, _⟩ := HR1.out.cells
        have c21 := hcell1 2 _ rfl
        clear hcell1
        refine oneH 16 (by rfl) (by kernel_rfl) (fun K hK => ?_)
        gi_wp2_with fail
        obtain ⟨W3, hW3, HR3, HK3⟩ : ∃ W3, w'.setCell ⟨w.heap.size + 3, 2, none⟩ (.bool false) = W3 ∧ Hid (Tk.Rdr (Zn w.heap.size) (w.heap.size + 3) (st.begin (c :: r)) n true W3) ∧ Hid (Keep (Zn w.heap.size) W W3) := by
          refine ⟨_, rfl, Lib.hid ?_, Lib.hid (HK1.out.setCell (fun h => h.2 rfl) _)⟩
          have : st.begin (c :: r) = { st with blank := false } := by unfold Tk.St.begin; rw [if_pos HO.out]; first | rfl | simp [Tk.isBlank, hc32, hc9]
          rw [this]; exact HR1.out.blank false
        rw [hW3]
        refine hK _ _ (fun h => absurd h (by decide)) ?_
        clear hK K hW3 hS c21
        refine doneH (by kernel_rfl) ?_
        have hp3 := (HM.out.keep HK3.out).pb.cell
        gi_wp2_with fail
        clear hp3
        refine (CallsIn.inRound _ (callsIn_wide.2 (tread_any _ _ _ _ _ _ _ HR3.out HB3.out.1 HB3.out.2.1 HB3.out.2.2))).mono ?_
        rintro e w4 ⟨hk4, (⟨st', hrd, rfl, hr4, ho4, hw4, hout4⟩ | ⟨z, hrd, hz, rfl⟩)⟩
        · have HK4 := Lib.hid (HK3.out.trans hk4)
          have HM4 := Lib.hid (HM.out.keep HK4.out)
          have HE4 := Lib.hid (HOKE.out st' hrd)
          have HG4 := Lib.hid (HGB.out st' hrd)
          have HR4 := Lib.hid hr4
          have hp4 := HM4.out.pb.cell
          obtain ⟨vo', vw', o', cap', hcell4, hfz4, hbl4, _⟩ := hr4.cells
          have c64 := hcell4 6 _ rfl
          clear hrd hr4 hk4 hcell4
          by_cases hopn4 : st'.opens = []
          · have HO4 := Lib.hid hopn4
            rw [hopn4] at c64
            clear hopn4
            gi_wp2_with fail
            refine (CallsIn.inRound _ (callsIn_wide.2 (tend_any _ _ st' n true _ HR4.out (by omega) (by omega)))).mono ?_
            rintro e w5 ⟨rfl, hr5, hk5⟩
            gi_wp2_with fail
            have hfin : st'.fin = st'.endE := by unfold Tk.St.fin; rw [if_pos HO4.out]
            have K := HK4.out.trans hk5
            have hE := HE4.out
            have hG := HG4.out
            rw [hfin] at hE hG
            exact ⟨K.others, ⟨K.size, K.block _ ⟨by omega, by omega⟩⟩, st'.endE, n, hE, by rw [show decide (st'.endE.opens ≠ []) = false by simp [Tk.St.endE, HO4.out]]; exact hr5, HM4.out.keep hk5, hG.1, hG.2.1, hG.2.2⟩
          · have HO4 := Lib.hid hopn4
            have hln : ((st'.opens.length : Int) == 0) = false := by rw [beq_eq_false_iff_ne]; have := List.length_pos_iff.2 hopn4; omega
            clear hopn4
            gi_wp2_with fail
            have hfin : st'.fin = st' := by unfold Tk.St.fin; rw [if_neg HO4.out]
            have K := HK4.out
            have hE := HE4.out
            have hG := HG4.out
            rw [hfin] at hE hG
            exact ⟨K.others, ⟨K.size, K.block _ ⟨by omega, by omega⟩⟩, st', n, hE, by rw [show decide (st'.opens ≠ []) = true by simp [HO4.out]]; exact HR4.out, HM4.out, hG.1, hG.2.1, hG.2.2⟩
        · have HK4 := Lib.hid (HK3.out.trans hk4)
          have HM4 := Lib.hid (HM.out.keep HK4.out)
          have HE4 := Lib.hid (HER.out z hrd)
          have hz' : (z != 0) = true := by simpa using hz
          have q0 := HM4.out.r0.cell
          have q1 := HM4.out.r1.cell
          have q2 := HM4.out.r2.cell
          have f0 := HM4.out.r0.frozen
          have f1 := HM4.out.r1.frozen
          have f2 := HM4.out.r2.frozen
          clear hrd hk4 hz
          gi_wp2_with fail
          have hM4 := HM4.out
          have h8 := HK4.out.size
          refine ⟨((HK4.out.others.trans (KeepsOthers.setCell _ _ _)).trans (KeepsOthers.setCell _ _ _)).trans (KeepsOthers.setCell _ _ _), rfl, n, z, by unfold Tk.entries; rw [HE4.out]; rfl, ?_, ?_, ?_, ?_, by simp [World.setCell]; omega⟩
          · exact ((hM4.r0.set _).setOther (by omega) _).setOther (by omega) _
          · exact ((hM4.r1.setOther (by omega) _).set _).setOther (by omega) _
          · exact ((hM4.r2.setOther (by omega) _).setOther (by omega) _).set _
          · exact ((hM4.below.setCell (p := ⟨w.heap.size, 0, none⟩) (Nat.le_refl _) _).setCell (p := ⟨w.heap.size + 1, 0, none⟩) (by simp) _).setCell (p := ⟨w.heap.size + 2, 0, none⟩) (by simp) _
    · have HO := Lib.hid hopn
      have hbg : decide (st.opens ≠ []) = true := by simp [hopn]
      rw [hbg] at c5 HR
      clear hbg hopn
      gi_wp2_with fail
      obtain ⟨W3, hW3, HR3, HK3⟩ : ∃ W3, W.setCell ⟨w.heap.size + 3, 4, none⟩ (.int .i64 n) = W3 ∧ Hid (Tk.Rdr (Zn w.heap.size) (w.heap.size + 3) (st.begin lt) n true W3) ∧ Hid (Keep (Zn w.heap.size) W W3) := by
        refine ⟨_, rfl, Lib.hid ?_, Lib.hid ((Keep.refl _ _).setCell (fun h => h.2 rfl) _)⟩
        have : st.begin lt = st := by unfold Tk.St.begin; rw [if_neg HO.out]
        rw [this]; exact HR.out.line n
      rw [hW3]
      clear hW3 c2 c4 c5 p0
      refine (CallsIn.inRound _ (callsIn_wide.2 (tread_any _ _ _ _ _ _ _ HR3.out HB3.out.1 HB3.out.2.1 HB3.out.2.2))).mono ?_
      rintro e w4 ⟨hk4, (⟨st', hrd, rfl, hr4, ho4, hw4, hout4⟩ | ⟨z, hrd, hz, rfl⟩)⟩
      · have HK4 := Lib.hid (HK3.out.trans hk4)
        have HM4 := Lib.hid (HM.out.keep HK4.out)
        have HE4 := Lib.hid (HOKE.out st' hrd)
        have HG4 := Lib.hid (HGB.out st' hrd)
        have HR4 := Lib.hid hr4
        have hp4 := HM4.out.pb.cell
        obtain ⟨vo', vw', o', cap', hcell4, hfz4, hbl4, _⟩ := hr4.cells
        have c64 := hcell4 6 _ rfl
        clear hrd hr4 hk4 hcell4
        by_cases hopn4 : st'.opens = []
        · have HO4 := Lib.hid hopn4
          rw [hopn4] at c64
          clear hopn4
          gi_wp2_with fail
          refine (CallsIn.inRound _ (callsIn_wide.2 (tend_any _ _ st' n true _ HR4.out (by omega) (by omega)))).mono ?_
          rintro e w5 ⟨rfl, hr5, hk5⟩
          gi_wp2_with fail
          have hfin : st'.fin = st'.endE := by unfold Tk.St.fin; rw [if_pos HO4.out]
          have K := HK4.out.trans hk5
          have hE := HE4.out
          have hG := HG4.out
          rw [hfin] at hE hG
          exact ⟨K.others, ⟨K.size, K.block _ ⟨by omega, by omega⟩⟩, st'.endE, n, hE, by rw [show decide (st'.endE.opens ≠ []) = false by simp [Tk.St.endE, HO4.out]]; exact hr5, HM4.out.keep hk5, hG.1, hG.2.1, hG.2.2⟩
        · have HO4 := Lib.hid hopn4
          have hln : ((st'.opens.length : Int) == 0) = false := by rw [beq_eq_false_iff_ne]; have := List.length_pos_iff.2 hopn4; omega
          clear hopn4
          gi_wp2_with fail
          have hfin : st'.fin = st' := by unfold Tk.St.fin; rw [if_neg HO4.out]
          have K := HK4.out
          have hE := HE4.out
          have hG := HG4.out
          rw [hfin] at hE hG
          exact ⟨K.others, ⟨K.size, K.block _ ⟨by omega, by omega⟩⟩, st', n, hE, by rw [show decide (st'.opens ≠ []) = true by simp [HO4.out]]; exact HR4.out, HM4.out, hG.1, hG.2.1, hG.2.2⟩
      · have HK4 := Lib.hid (HK3.out.trans hk4)
        have HM4 := Lib.hid (HM.out.keep HK4.out)
        have HE4 := Lib.hid (HER.out z hrd)
        have hz' : (z != 0) = true := by simpa using hz
        have q0 := HM4.out.r0.cell
        have q1 := HM4.out.r1.cell
        have q2 := HM4.out.r2.cell
        have f0 := HM4.out.r0.frozen
        have f1 := HM4.out.r1.frozen
        have f2 := HM4.out.r2.frozen
        clear hrd hk4 hz
        gi_wp2_with fail
        have hM4 := HM4.out
        have h8 := HK4.out.size
        refine ⟨((HK4.out.others.trans (KeepsOthers.setCell _ _ _)).trans (KeepsOthers.setCell _ _ _)).trans (KeepsOthers.setCell _ _ _), rfl, n, z, by unfold Tk.entries; rw [HE4.out]; rfl, ?_, ?_, ?_, ?_, by simp [World.setCell]; omega⟩
        · exact ((hM4.r0.set _).setOther (by omega) _).setOther (by omega) _
        · exact ((hM4.r1.setOther (by omega) _).set _).setOther (by omega) _
        · exact ((hM4.r2.setOther (by omega) _).setOther (by omega) _).set _
        · exact ((hM4.below.setCell (p := ⟨w.heap.size, 0, none⟩) (Nat.le_refl _) _).setCell (p := ⟨w.heap.size + 1, 0, none⟩) (by simp) _).setCell (p := ⟨w.heap.size + 2, 0, none⟩) (by simp) _
  case done =>
    rintro ⟨p1, n⟩ W hE ⟨st, cu, hent, hR, hM, hop, _, _⟩ hK
    obtain rfl : p1 = [] := hE
    rw [Tk.ent_nil] at hent
    rw [hs0] at hK ⊢
    have hz8 : w.heap.size + 8 ≤ W.heap.size := by have := hR.zl (w.heap.size + 7) ⟨by omega, by omega⟩; omega
    obtain ⟨vo, vw, o, cap, hcell, hfz, hbl, hops, hcap, hen⟩ := hR.cells
    have c6 := hcell 6 _ rfl
    have c0 := hcell 0 _ rfl
    have p0 := hM.pb.cell
    have q0 := hM.r0.cell
    have q1 := hM.r1.cell
    have q2 := hM.r2.cell
    have f0 := hM.r0.frozen
    have f1 := hM.r1.frozen
    have f2 := hM.r2.frozen
    have HM := Lib.hid hM
    have HEN := Lib.hid hen
    have HOPS := Lib.hid hops
    obtain ⟨ov, cv, rfl⟩ := hen.form
    clear hR hcell hM hen hops
    by_cases hopn : st.opens = []
    · have HE := Lib.hid (show Tk.entries s = (st.out, 0, 0) by unfold Tk.entries; rw [hent]; simp [Tk.finish, hopn])
      rw [hopn] at c6
      clear hent hopn
      gi_wp2_with fail
      have hM := HM.out
      have hK2 : (((W.setCell ⟨w.heap.size, 0, none⟩ (.slice ov st.out.length cv)).setCell ⟨w.heap.size + 1, 0, none⟩ (.int .i64 0)).setCell ⟨w.heap.size + 2, 0, none⟩ (.int .i64 0)).heap[w.heap.size + 6]? = some (.deferred (some [])) := (Below.heap_setCell _ _ _ _ (by simp)).trans ((Below.heap_setCell _ _ _ _ (by simp)).trans ((Below.heap_setCell _ _ _ _ (by simp)).trans hK))
      have g0 := ((((hM.r0.set (.slice ov st.out.length cv)).setOther (c := w.heap.size + 1) (o := 0) (by omega) (.int .i64 0)).setOther (c := w.heap.size + 2) (o := 0) (by omega) (.int .i64 0)).putD (l := w.heap.size + 6) hK2 (.deferred none)).cell
      have g1 := ((((hM.r1.setOther (c := w.heap.size) (o := 0) (by omega) (.slice ov st.out.length cv)).set (.int .i64 0)).setOther (c := w.heap.size + 2) (o := 0) (by omega) (.int .i64 0)).putD (l := w.heap.size + 6) hK2 (.deferred none)).cell
      have g2 := ((((hM.r2.setOther (c := w.heap.size) (o := 0) (by omega) (.slice ov st.out.length cv)).setOther (c := w.heap.size + 1) (o := 0) (by omega) (.int .i64 0)).set (.int .i64 0)).putD (l := w.heap.size + 6) hK2 (.deferred none)).cell
      refine ⟨by simp, .inl ⟨_, _, rfl, run_takeDeferred hK2, ?_⟩⟩
      refine ⟨.tuple #[.slice ov st.out.length cv, .int .i64 0, .int .i64 0], by simp [results, Try.results11, go_sem, g0, g1, g2], .slice ov st.out.length cv, ?_, ?_, ?_⟩
      · rw [HE.out]; rfl
      · rw [HE.out]
        refine HEN.out.kept (fun _ _ => trivial) (by simp) (fun g hg hl => ?_)
        have hz : ¬ g < w.heap.size + 8 := fun e => hg.1 ⟨e, hg.2⟩
        rw [World.putObj_heap_other (by omega), Below.heap_setCell _ _ _ _ (by simp; omega), Below.heap_setCell _ _ _ _ (by simp; omega), Below.heap_setCell _ _ _ _ (by simp; omega)]
      · exact below_putD (((hM.below.setCell (p := ⟨w.heap.size, 0, none⟩) (Nat.le_refl _) _).setCell (p := ⟨w.heap.size + 1, 0, none⟩) (by simp) _).setCell (p := ⟨w.heap.size + 2, 0, none⟩) (by simp) _) (by omega) (by simp [World.setCell]; omega) _
    · obtain ⟨n0, rest, hno⟩ : ∃ n0 rest, st.opens = n0 :: rest := by
        rcases h : st.opens with _ | ⟨n0, rest⟩
        · exact absurd h hopn
        · exact ⟨n0, rest, rfl⟩
      have HE := Lib.hid (show Tk.entries s = ([], n0, 2) by unfold Tk.entries; rw [hent]; simp [Tk.finish, hno])
      obtain ⟨g, rfl, hgz, hgb, hgc⟩ := HOPS.out 0 (by rw [hno]; simp)
      have hg0 : W.cell? ⟨g, 0, none⟩ = some (.int .i64 n0) := by rw [hgc]; simp [hno]
      have hpos : (0 : Int) < st.opens.length := by rw [hno]; simp
      clear hent hopn hno hgc
      have hcap' : (st.opens.length : Int) ≤ cap := by omega
      gi_wp2_with fail
      refine drawnH [0, 2, 3, 4, 5, 6] (fun w' => w'.cell? ⟨w.heap.size + 4, 0, none⟩ = some (.pointer (some ⟨w.heap.size + 3, 0, none⟩)) ∧ w'.cell? ⟨w.heap.size + 3, 6, none⟩ = some (.slice (some ⟨g, 0, none⟩) st.opens.length cap) ∧ w'.cell? ⟨g, 0, none⟩ = some (.int .i64 n0)) 9 rfl (by kernel_rfl) ?_
      intro w' hw'
      have hS : w'.cell? ⟨w.heap.size + 4, 0, none⟩ = some (.pointer (some ⟨w.heap.size + 3, 0, none⟩)) ∧ w'.cell? ⟨w.heap.size + 3, 6, none⟩ = some (.slice (some ⟨g, 0, none⟩) st.opens.length cap) ∧ w'.cell? ⟨g, 0, none⟩ = some (.int .i64 n0) := by subst hw'; exact ⟨p0, c6, hg0⟩
      obtain ⟨HM1, HK1⟩ : Hid (EnM w.heap.size w w') ∧ Hid (w'.heap[w.heap.size + 6]? = some (.deferred (some []))) ∧ w'.heap.size = W.heap.size := by
        subst hw'; exact ⟨Lib.hid ⟨HM.out.r0, HM.out.r1, HM.out.r2, HM.out.pb, HM.out.below.drew⟩, Lib.hid hK, rfl⟩
      obtain ⟨HK1, hsz1⟩ := HK1
      have q0 := HM1.out.r0.cell
      have q1 := HM1.out.r1.cell
      have q2 := HM1.out.r2.cell
      have f0 := HM1.out.r0.frozen
      have f1 := HM1.out.r1.frozen
      have f2 := HM1.out.r2.frozen
      clear hw' p0 c6 hg0 c0
      refine takeH 0 (v := ?qev0) (fun _ => trivial) (by rfl) (by kernel_rfl) hS (.inl ⟨by kernel_rfl, fun w1 ⟨a1, a2, a3⟩ => ?qey0⟩) ?_
      case qey0 => (go_simp; try first | rfl | (rw [if_pos (by omega)]) | (rw [if_neg (by omega)]) | (rw [if_neg (by simp; omega)]) | (split <;> first | (exfalso; omega) | rfl))
      refine takeP 1 (v := ?qev1) (fun _ => trivial) (by rfl) (by kernel_rfl) (.inl ⟨by kernel_rfl, fun w1 _ => ?qey1⟩) ?_
      case qey1 => (go_simp; try first | rfl | (rw [if_pos (by omega)]) | (rw [if_neg (by omega)]) | (rw [if_neg (by simp; omega)]) | (split <;> first | (exfalso; omega) | rfl))
      refine takeH 2 (v := ?qev2) (fun _ => trivial) (by rfl) (by kernel_rfl) hS (.inl ⟨by kernel_rfl, fun w1 ⟨a1, a2, a3⟩ => ?qey2⟩) ?_
      case qey2 => (go_simp; try first | rfl | (rw [if_pos (by omega)]) | (rw [if_neg (by omega)]) | (rw [if_neg (by simp; omega)]) | (split <;> first | (exfalso; omega) | rfl))
      refine takeH 3 (v := ?qev3) (fun _ => trivial) (by rfl) (by kernel_rfl) hS (.inl ⟨by kernel_rfl, fun w1 ⟨a1, a2, a3⟩ => ?qey3⟩) ?_
      case qey3 => (go_simp; try first | rfl | (rw [if_pos (by omega)]) | (rw [if_neg (by omega)]) | (rw [if_neg (by simp; omega)]) | (split <;> first | (exfalso; omega) | rfl))
      refine takeH 4 (v := ?qev4) (fun _ => trivial) (by rfl) (by kernel_rfl) hS (.inl ⟨by kernel_rfl, fun w1 ⟨a1, a2, a3⟩ => ?qey4⟩) ?_
      case qey4 => (go_simp; try first | rfl | (rw [if_pos (by omega)]) | (rw [if_neg (by omega)]) | (rw [if_neg (by simp; omega)]) | (split <;> first | (exfalso; omega) | rfl))
      refine takeH 5 (v := ?qev5) (fun _ => trivial) (by rfl) (by kernel_rfl) hS (.inl ⟨by kernel_rfl, fun w1 ⟨a1, a2, a3⟩ => ?qey5⟩) ?_
      case qey5 => (go_simp; try first | rfl | (rw [if_pos (by omega)]) | (rw [if_neg (by omega)]) | (rw [if_neg (by simp; omega)]) | (split <;> first | (exfalso; omega) | rfl))
      refine oneH 6 (by rfl) (by kernel_rfl) (fun K hK => ?_)
      gi_wp2_with fail
      have hgB : ¬ g < w.heap.size + 8 := fun e => hgz ⟨e, hgb⟩
      refine hK _ _ (fun _ => ⟨(World.cell?_of_block (Below.heap_setCell _ _ _ _ (by simp))).trans hS.1, (World.cell?_of_block (Below.heap_setCell _ _ _ _ (by simp))).trans hS.2.1, (World.cell?_of_block (Below.heap_setCell _ _ _ _ (by simp; omega))).trans hS.2.2⟩) ?_
      clear hK K
      refine oneH 7 (by rfl) (by kernel_rfl) (fun K hK => ?_)
      gi_wp2_with fail
      refine hK _ _ (fun h => absurd h (by decide)) ?_
      clear hK K
      refine oneH 8 (by rfl) (by kernel_rfl) (fun K hK => ?_)
      gi_wp2_with fail
      refine hK _ _ (fun h => absurd h (by decide)) ?_
      clear hK K
      refine doneH (by kernel_rfl) ?_
      gi_wp2_with fail
      have hM := HM1.out
      have hK2 : (((w'.setCell ⟨w.heap.size, 0, none⟩ (.slice none 0 0)).setCell ⟨w.heap.size + 1, 0, none⟩ (.int .i64 n0)).setCell ⟨w.heap.size + 2, 0, none⟩ (.int .i64 2)).heap[w.heap.size + 6]? = some (.deferred (some [])) := (Below.heap_setCell _ _ _ _ (by simp)).trans ((Below.heap_setCell _ _ _ _ (by simp)).trans ((Below.heap_setCell _ _ _ _ (by simp)).trans HK1.out))
      have g0 := ((((hM.r0.set (.slice none 0 0)).setOther (c := w.heap.size + 1) (o := 0) (by omega) (.int .i64 n0)).setOther (c := w.heap.size + 2) (o := 0) (by omega) (.int .i64 2)).putD (l := w.heap.size + 6) hK2 (.deferred none)).cell
      have g1 := ((((hM.r1.setOther (c := w.heap.size) (o := 0) (by omega) (.slice none 0 0)).set (.int .i64 n0)).setOther (c := w.heap.size + 2) (o := 0) (by omega) (.int .i64 2)).putD (l := w.heap.size + 6) hK2 (.deferred none)).cell
      have g2 := ((((hM.r2.setOther (c := w.heap.size) (o := 0) (by omega) (.slice none 0 0)).setOther (c := w.heap.size + 1) (o := 0) (by omega) (.int .i64 n0)).set (.int .i64 2)).putD (l := w.heap.size + 6) hK2 (.deferred none)).cell
      refine ⟨by simp, .inl ⟨_, _, rfl, run_takeDeferred hK2, ?_⟩⟩
      refine ⟨.tuple #[.slice none 0 0, .int .i64 n0, .int .i64 2], by simp [results, Try.results11, go_sem, g0, g1, g2], .slice none 0 0, ?_, ?_, ?_⟩
      · rw [HE.out]
      · rw [HE.out]; exact ⟨[], rfl, fun i h => by simp at h, .inl ⟨rfl, rfl⟩⟩
      · exact below_putD (((hM.below.setCell (p := ⟨w.heap.size, 0, none⟩) (Nat.le_refl _) _).setCell (p := ⟨w.heap.size + 1, 0, none⟩) (by simp) _).setCell (p := ⟨w.heap.size + 2, 0, none⟩) (by simp) _) (by omega) (by simp [World.setCell]; omega) _
  case stop =>
    rintro c W ⟨rfl, n, e, hz, h0, h1, h2, h3, h4⟩ hK
    rw [hs0] at hK ⊢
    have hf0 := h0.frozen
    have hf1 := h1.frozen
    have hf2 := h2.frozen
    have hc0 := h0.cell
    have hc1 := h1.cell
    have hc2 := h2.cell
    have HZ := Lib.hid hz
    clear hz
    gi_wp2_with fail
    have g0 := (h0.putD (l := w.heap.size + 6) hK (.deferred none)).cell
    have g1 := (h1.putD (l := w.heap.size + 6) hK (.deferred none)).cell
    have g2 := (h2.putD (l := w.heap.size + 6) hK (.deferred none)).cell
    refine ⟨by simp, .inl ⟨_, _, rfl, run_takeDeferred hK, ?_⟩⟩
    refine ⟨.tuple #[.slice none 0 0, .int .i64 n, .int .i64 e], by simp [results, Try.results11, go_sem, g0, g1, g2], .slice none 0 0, ?_, ?_, ?_⟩
    · rw [HZ.out]
    · rw [HZ.out]; exact ⟨[], rfl, fun i h => by simp at h, .inl ⟨rfl, rfl⟩⟩
    · exact below_putD h3 (by omega) (by omega) _
end Go.Proofs.Yticljagcigiejaa
