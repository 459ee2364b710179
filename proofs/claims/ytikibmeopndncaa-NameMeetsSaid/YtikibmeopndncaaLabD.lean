/- label.Unescape, Parse. -/
import Derived.Test.YtikibmeopndncaaLabC
namespace Go.Proofs.Ytikibmeopndncaa
open Go.RowKit Go.Shelf
set_option maxRecDepth 100000
attribute [local go_sem] Oper.semAt_some

theorem escaped_at (s : List UInt8) (x : UInt8) (n : Nat) (z : Int) (he : Lb.escd s = (x, n, z)) (w : World) (hs : s.length ≤ 1000000) :
    Calls Try.prog 108 #[S s] w fun e w' => e = .returned (.tuple #[.int .u8 x.toNat, .int .i64 n, .int .i64 z]) ∧ Below w.heap.size w w' := by
  refine (escaped_any s w hs).mono ?_
  rintro e w' ⟨rfl, hb⟩
  rw [he]; exact ⟨rfl, hb⟩

/-- IndexByte, asked whether an octet is among some -/
theorem mem_indexByte (l : List UInt8) (c : UInt8) : 0 ≤ Lib.indexByte l c ↔ c ∈ l := by
  induction l with
  | nil => simp [Lib.indexByte]
  | cons b l ih =>
    have hge := Lib.indexByte_ge l c
    unfold Lib.indexByte
    by_cases h : b = c
    · subst h; simp
    · have h' : c ≠ b := fun e => h e.symm
      simp only [beq_iff_eq, h, if_false, List.mem_cons, h', false_or, ← ih]
      by_cases h2 : Lib.indexByte l c = -1
      · simp [h2]
      · simp [h2]; omega
theorem idx_any (l : List UInt8) (c : UInt8) (w : World) :
    Calls Try.prog 86 #[S l, .int .u8 c.toNat] w fun e w' => ∃ n : Int, e = .returned (.int .i64 n) ∧ (0 ≤ n ↔ c ∈ l) ∧ w = w' := by
  refine (Try.strings_IndexByte _ _ _).mono ?_
  rintro e w' ⟨rfl, rfl⟩
  exact ⟨_, rfl, by rw [← mem_indexByte]; simp, rfl⟩

/-- memory between two rounds of Unescape: what was read, where it ends -/
structure UnM (B : Nat) (w : World) (s bare out : List UInt8) (behind : Nat) (W : World) : Prop where
  bs : Box B 9 (S s) W
  bb : Box (B + 1) 9 (S bare) W
  r0 : Box (B + 2) 9 (S []) W
  r1 : Box (B + 3) 24 (.int .i64 0) W
  out : Bld B (B + 4) out W
  beh : Box (B + 5) 3 (.int .i64 behind) W
  it : Box (B + 6) 9 (S s) W
  below : Below B w W
  size : B + 7 ≤ W.heap.size
theorem UnM.put {B w s bare out behind L W} (h : UnM B w s bare out behind W) (hL : B ≤ L) {r : Loop} (hr : W.heap[L]? = some (.loop r)) (o : Obj) : UnM B w s bare out behind (W.putObj L o) :=
  ⟨h.bs.put hr o, h.bb.put hr o, h.r0.put hr o, h.r1.put hr o, builderF_put h.out hr o, h.beh.put hr o, h.it.put hr o, below_put h.below hL hr (by have := h.size; omega) o, by simpa using h.size⟩
theorem UnM.alloc {B w s bare out behind W} (h : UnM B w s bare out behind W) (o : Obj) : UnM B w s bare out behind (W.alloc o) :=
  ⟨h.bs.alloc o, h.bb.alloc o, h.r0.alloc o, h.r1.alloc o, builderF_alloc h.out o, h.beh.alloc o, h.it.alloc o, h.below.alloc (by have := h.size; omega) o, by have := h.size; simp; omega⟩
theorem UnM.call {B w s bare out behind W W'} (h : UnM B w s bare out behind W) (hb : Below W.heap.size W W') : UnM B w s bare out behind W' :=
  ⟨h.bs.below hb, h.bb.below hb, h.r0.below hb, h.r1.below hb, builderF_below h.out hb, h.beh.below hb, h.it.below hb, h.below.trans (hb.mono (by have := h.size; omega)), by have := h.size; have := hb.size; omega⟩
theorem UnM.wrote {B w s bare out out' behind W W'} (h : UnM B w s bare out behind W) (hb : Below B W W') (ho : Lib.OthersKept 5 (some (B + 4)) W W') (hl : Bld B (B + 4) out' W') : UnM B w s bare out' behind W' :=
  ⟨h.bs.others ho (by omega) (by decide), h.bb.others ho (by omega) (by decide), h.r0.others ho (by omega) (by decide), h.r1.others ho (by omega) (by decide), hl, h.beh.others ho (by omega) (by decide), h.it.others ho (by omega) (by decide), h.below.trans hb, by have := h.size; have := hb.size; omega⟩
theorem CellsKept.setOther {W : World} (b : Nat) (hb : ∃ v t f, W.heap[b]? = some (.cells v t f)) (u : Value) (k : Nat) (hk : k ≠ b) : (W.setCell ⟨b, 0, none⟩ u).heap[k]? = W.heap[k]? := Below.heap_setCell _ _ _ _ hk
theorem builderF_setOther {T e B b bs} {W : World} (h : Lib.IsBuilderF T e B b bs W) {c t v} (hc : Box c t v W) (hbc : b ≠ c) (hte : t ≠ e) (u : Value) : Lib.IsBuilderF T e B b bs (W.setCell ⟨c, 0, none⟩ u) := by
  have key : ∀ p, Lib.BuilderAtF T e B b p bs W → Lib.BuilderAtF T e B b p bs (W.setCell ⟨c, 0, none⟩ u) := by
    rintro p ⟨hB, v', hb, ⟨hl, hown⟩, hne⟩
    refine ⟨hB, v', (Below.heap_setCell _ _ _ _ hbc).trans hb, ⟨hl, ?_⟩, hne⟩
    rcases hown with hn | ⟨g, cap, cur, fz, hv, hbg, hg, rest⟩
    · exact .inl hn
    · refine .inr ⟨g, cap, cur, fz, hv, hbg, (Below.heap_setCell _ _ _ _ (fun e' => ?_)).trans hg, rest⟩
      subst e'; unfold Box at hc; rw [hg] at hc; cases hc; exact hte rfl
  exact h.elim (fun h => .inl (key _ h)) (fun h => .inr (key _ h))
theorem builderF_mono {T e B B' b bs} {W : World} (h : Lib.IsBuilderF T e B b bs W) (hB : B' ≤ B) : Lib.IsBuilderF T e B' b bs W := by
  have key : ∀ p, Lib.BuilderAtF T e B b p bs W → Lib.BuilderAtF T e B' b p bs W := by
    rintro p ⟨h1, v', hb, ⟨hl, hown⟩, hne⟩
    refine ⟨by omega, v', hb, ⟨hl, ?_⟩, hne⟩
    rcases hown with hn | ⟨g, cap, cur, fz, hv, hbg, hg, rest⟩
    · exact .inl hn
    · exact .inr ⟨g, cap, cur, fz, hv, by omega, hg, rest⟩
  exact h.elim (fun h => .inl (key _ h)) (fun h => .inr (key _ h))
theorem UnM.moved {B w s bare out behind W} (h : UnM B w s bare out behind W) (n : Int) (m : Nat) (hn : n = m) : UnM B w s bare out m (W.setCell ⟨B + 5, 0, none⟩ (.int .i64 n)) := by
  subst hn
  exact ⟨h.bs.setOther (by omega) _, h.bb.setOther (by omega) _, h.r0.setOther (by omega) _, h.r1.setOther (by omega) _, builderF_setOther h.out h.beh (by omega) (by decide) _, h.beh.set _, h.it.setOther (by omega) _, h.below.setCell (p := ⟨B + 5, 0, none⟩) (show B ≤ B + 5 by omega) _, by have := h.size; simpa [World.setCell] using this⟩

def UnI (B : Nat) (w : World) (s bare : List UInt8) (k : Nat) (W : World) : Prop :=
  ∃ out behind, Lb.Ahead bare s out (s.drop behind) ∧ k ≤ behind ∧ behind ≤ s.length ∧ out.length ≤ k ∧ UnM B w s bare out behind W
theorem UnI.put {B w s bare L} (hL : B ≤ L) (k : Nat) (A : World) (r : Loop) (o : Obj) (h : UnI B w s bare k A) (hr : A.heap[L]? = some (.loop r)) : UnI B w s bare k (A.putObj L o) := by
  obtain ⟨out, behind, h1, h2, h3, h4, h5⟩ := h
  exact ⟨out, behind, h1, h2, h3, h4, h5.put hL hr o⟩
/-- left by 'return "", e' -/
def UnX (B : Nat) (w : World) (s bare : List UInt8) (c : Code) (W : World) : Prop :=
  c = .ret ∧ ∃ z : Int, Lb.unesc bare s = ([], z) ∧ Box (B + 2) 9 (S []) W ∧ Box (B + 3) 24 (.int .i64 z) W ∧ Below B w W ∧ B + 7 ≤ W.heap.size
theorem UnX.put {B w s bare L} (hL : B ≤ L) (c : Code) (A : World) (r : Loop) (o : Obj) (h : UnX B w s bare c A) (hr : A.heap[L]? = some (.loop r)) : UnX B w s bare c (A.putObj L o) := by
  obtain ⟨h0, z, h1, h2, h3, h4, h5⟩ := h
  exact ⟨h0, z, h1, h2.put hr o, h3.put hr o, below_put h4 hL hr (by omega) o, by simpa using h5⟩

theorem UnM.exit {B w s bare out behind V} (h : UnM B w s bare out behind V) (z : Int) (hz : Lb.unesc bare s = ([], z)) :
    UnX B w s bare .ret ((V.setCell ⟨B + 2, 0, none⟩ (S [])).setCell ⟨B + 3, 0, none⟩ (.int .i64 z)) :=
  ⟨rfl, z, hz, (h.r0.set _).setOther (by omega) _, (h.r1.setOther (by omega) _).set _, (h.below.setCell (p := ⟨B + 2, 0, none⟩) (show B ≤ B + 2 by omega) _).setCell (p := ⟨B + 3, 0, none⟩) (show B ≤ B + 3 by omega) _, by have := h.size; simpa [World.setCell] using this⟩

set_option maxRecDepth 10000 in
set_option maxHeartbeats 2000000 in
theorem unescape_any (s bare : List UInt8) (w : World) (hs : s.length ≤ 1000000) :
    Calls Try.prog 102 #[S s, S bare] w fun e w' => e = .returned (.tuple #[S (Lb.unesc bare s).1, .int .i64 (Lb.unesc bare s).2]) ∧ Below w.heap.size w w' := by
  refine (callsIn_wide (n := 0)).1 ?_
  refine callsIn_of_wp_marks Try.func102 rfl trivial ?_ rfl
  simp only [Try.ntmps102, List.size_toArray, List.length_cons, List.length_nil, Nat.reduceAdd, Nat.reduceSub, Array.replicate_succ, Array.replicate_zero, List.push_toArray, List.append_toArray, List.nil_append, List.cons_append]
  gi_wp2_with (gi_at_call 84; refine (callsIn_wide.2 (octets_any s _)).mono ?_; rintro e w' ⟨rfl, rfl⟩)
  simp only [Nat.add_assoc, Nat.reduceAdd]
  obtain ⟨W0, hW0, hM0, hs0⟩ : ∃ W0, (((((((w.alloc (.cells #[S s] 9)).alloc (.cells #[S bare] 9)).alloc (.cells #[.string { data := #[] }] 9)).alloc (.cells #[.int .i64 0] 24)).alloc
      (.cells #[.pointer none, .slice none 0 0] 86)).alloc (.cells #[.int .i64 0] 3)).alloc (.cells #[S s] 9)) = W0 ∧ UnM w.heap.size w s bare [] 0 W0 ∧ W0.heap.size = w.heap.size + 7 := by
    refine ⟨_, rfl, ?_, by simp⟩
    have a0 := Box.new w 9 (S s)
    have a1 := Box.new (w.alloc (.cells #[S s] 9)) 9 (S bare)
    have a2 := Box.new ((w.alloc (.cells #[S s] 9)).alloc (.cells #[S bare] 9)) 9 (S [])
    have a3 := Box.new (((w.alloc (.cells #[S s] 9)).alloc (.cells #[S bare] 9)).alloc (.cells #[S []] 9)) 24 (.int .i64 0)
    have a4 := Bld_new ((((w.alloc (.cells #[S s] 9)).alloc (.cells #[S bare] 9)).alloc (.cells #[S []] 9)).alloc (.cells #[.int .i64 0] 24))
    have a5 := Box.new (((((w.alloc (.cells #[S s] 9)).alloc (.cells #[S bare] 9)).alloc (.cells #[S []] 9)).alloc (.cells #[.int .i64 0] 24)).alloc (.cells #[.pointer none, .slice none 0 0] 86)) 3 (.int .i64 0)
    have a6 := Box.new ((((((w.alloc (.cells #[S s] 9)).alloc (.cells #[S bare] 9)).alloc (.cells #[S []] 9)).alloc (.cells #[.int .i64 0] 24)).alloc (.cells #[.pointer none, .slice none 0 0] 86)).alloc (.cells #[.int .i64 0] 3)) 9 (S s)
    simp only [World.size_alloc, Nat.add_assoc, Nat.reduceAdd] at a1 a2 a3 a4 a5 a6
    exact ⟨(((((a0.alloc _).alloc _).alloc _).alloc _).alloc _).alloc _, ((((a1.alloc _).alloc _).alloc _).alloc _).alloc _, (((a2.alloc _).alloc _).alloc _).alloc _, ((a3.alloc _).alloc _).alloc _, builderF_mono (builderF_alloc (builderF_alloc a4 _) _) (by omega), a5.alloc _, a6,
      ((((((((Below.refl _ _).alloc (by simp) _).alloc (by simp) _).alloc (by simp; omega) _).alloc (by simp; omega) _).alloc (by simp; omega) _).alloc (by simp; omega) _).alloc (by simp; omega) _), by simp⟩
  rw [hW0]
  clear hW0
  refine rf_outer rfl (enters_of Try.func100 (by kernel_rfl) rfl) (octets1_iter (w.heap.size + 6) s hs)
    (fun A B h => by subst h; exact KeepsOthers.refl _) sameCell.trans (fun A o => sameCell.put (by omega) A o)
    (fun _ _ _ _ ⟨_, h, _⟩ => by subst h; rfl)
    (UnI w.heap.size w s bare) (UnX w.heap.size w s bare) (fun _ _ _ h e => by subst e; exact h) (fun _ _ _ h e => by subst e; exact h)
    (UnI.put (by omega)) (UnX.put (by omega))
    (fun r => ?start) (fun r => ?pre) ?round ?done ?stop
  case start => exact ⟨[], 0, Lb.Ahead.start _ _, by omega, by omega, by simp, (hM0.alloc _).alloc _⟩
  case pre => exact ((hM0.alloc _).alloc _).it.cell
  case round =>
    rintro n k k' v W hI ⟨hk, rfl, rfl⟩
    gi_wp2
    refine rfNext_same (Eq.refl _) hI (UnI.put (by omega)) ?_
    clear hI hM0
    rintro W r rfl hr ⟨out, behind, h1, h2, h3, h4, hM⟩
    have hcb := hM.beh.cell
    have hfb := hM.beh.frozen
    have hcs := hM.bs.cell
    have hcbare := hM.bb.cell
    have H1 := Lib.hid h1
    clear h1
    by_cases hkb : k < behind
    · gi_wp2
      exact ⟨KeepsOthers.refl _, Eq.refl _, out, behind, H1.out, hkb, h3, by omega, hM⟩
    · obtain rfl : k = behind := by omega
      have hM1 := hM.moved (k + 1) (k + 1) rfl
      have hko1 := KeepsOthers.setCell W ⟨w.heap.size + 5, 0, none⟩ (.int .i64 ((k : Int) + 1))
      have HD := Lib.hid (List.drop_eq_getElem_cons hk)
      by_cases h92 : s[k] = 92
      · have hb92 : ((s[k].toNat : Int) == 92) = true := by rw [h92]; rfl
        obtain ⟨⟨x, n, z⟩, he⟩ : ∃ p, Lb.escd (s.drop (k + 1)) = p := ⟨_, rfl⟩
        have hlen := Lb.escd_len (s.drop (k + 1))
        rw [he] at hlen
        simp only [List.length_drop] at hlen
        have HE := Lib.hid he
        have H92 := Lib.hid h92
        clear he h92
        gi_wp2_with fail
        refine (CallsIn.inRound _ (callsIn_wide.2 (escaped_at _ x n z HE.out _ (by simp; omega)))).mono ?_
        rintro e w1 ⟨rfl, hb1⟩
        have hM2 := hM1.call hb1
        have hko2 := hko1.trans (below_keepsOthers hb1)
        by_cases hz : z = 0
        · subst hz
          gi_wp2_with fail
          refine (CallsIn.inRound _ (callsIn_wide.2 (wbyte w.heap.size (w.heap.size + 4) out x _ _ rfl hM2.out (by omega) (by have := hM2.size; omega)))).mono ?_
          rintro e w2 ⟨rfl, h22, hb2, ho2⟩
          have hM3 := hM2.wrote hb2 ho2 h22
          have hko3 := hko2.trans (keepsOthers_others hb2.size ho2 (builderF_row hM2.out))
          have hcb3 := hM3.beh.cell
          have hfb3 := hM3.beh.frozen
          gi_wp2_with fail
          have hM4 := hM3.moved ((k : Int) + 1 + n) (k + 1 + n) (by omega)
          have hko4 := hko3.trans (KeepsOthers.setCell _ ⟨w.heap.size + 5, 0, none⟩ (.int .i64 ((k : Int) + 1 + n)))
          refine ⟨hko4, hM.it.same hM4.it, out ++ [x], k + 1 + n, ?_, by omega, by omega, by simp; omega, hM4⟩
          refine H1.out.step ?_
          rw [HD.out, H92.out, Lb.un_esc _ _ (by rw [HE.out]), HE.out, List.drop_drop]; rfl
        · have hz' : (z != 0) = true := by simpa using hz
          have HZ := Lib.hid hz
          clear hz
          have hf0 := hM2.r0.frozen
          have hf1 := hM2.r1.frozen
          have hc0 := hM2.r0.cell
          have hc1 := hM2.r1.cell
          gi_wp2_with fail
          exact ⟨(hko2.trans (KeepsOthers.setCell _ _ _)).trans (KeepsOthers.setCell _ _ _), hM2.exit z (H1.out.err (by rw [HD.out, H92.out, Lb.un_err _ _ (by rw [HE.out]; exact HZ.out), HE.out]))⟩
      · have hb92 : ((s[k].toNat : Int) == 92) = false := by
          rw [beq_eq_false_iff_ne]; intro e; apply h92; apply UInt8.toNat_inj.1; exact_mod_cast e
        have H92 := Lib.hid h92
        clear h92
        gi_wp2_with fail
        refine (CallsIn.inRound _ (callsIn_wide.2 (idx_any bare s[k] _))).mono ?_
        rintro e w1 ⟨n, rfl, hn, rfl⟩
        by_cases hm : s[k] ∈ bare
        · have hn' := hn.2 hm
          have HM := Lib.hid hm
          clear hn hm
          have hf0 := hM1.r0.frozen
          have hf1 := hM1.r1.frozen
          have hc0 := hM1.r0.cell
          have hc1 := hM1.r1.cell
          gi_wp2_with fail
          exact ⟨(hko1.trans (KeepsOthers.setCell _ _ _)).trans (KeepsOthers.setCell _ _ _), hM1.exit 2 (H1.out.err (by rw [HD.out, Lb.un_bare _ _ _ H92.out HM.out]))⟩
        · have hn' : n < 0 := by exact Int.not_le.1 (fun h => hm (hn.1 h))
          have HM := Lib.hid hm
          clear hn hm
          gi_wp2_with fail
          refine (CallsIn.inRound _ (callsIn_wide.2 (wbyte w.heap.size (w.heap.size + 4) out s[k] _ _ rfl hM1.out (by omega) (by have := hM1.size; omega)))).mono ?_
          rintro e w2 ⟨rfl, h22, hb2, ho2⟩
          have hM3 := hM1.wrote hb2 ho2 h22
          have hko3 := hko1.trans (keepsOthers_others hb2.size ho2 (builderF_row hM1.out))
          gi_wp2_with fail
          refine ⟨hko3, hM.it.same hM3.it, out ++ [s[k]], k + 1, ?_, by omega, by omega, by simp; omega, hM3⟩
          refine H1.out.step ?_
          rw [HD.out, Lb.un_plain _ _ _ H92.out HM.out]; rfl
  case done =>
    rintro k W rfl ⟨out, behind, h1, h2, h3, h4, hM⟩ hK
    obtain rfl : behind = s.length := by omega
    rw [List.drop_length] at h1
    have hun := Lib.hid h1.done
    clear h1
    rw [hs0] at hK ⊢
    gi_wp2_with fail
    refine (callsIn_wide.2 (Try.Builder_String_any_k w.heap.size (w.heap.size + 4) out _ hM.out (by have := hM.size; omega))).mono ?_
    rintro e w1 ⟨rfl, h21, hb1, ho1⟩
    have hM1 := hM.wrote hb1 ho1 h21
    have hf0 := hM1.r0.frozen
    have hf1 := hM1.r1.frozen
    have hc0 := hM1.r0.cell
    have hc1 := hM1.r1.cell
    have hK1 := ho1 _ _ hK (fun e => by have := Option.some.inj e; omega) (fun _ _ e => by cases e)
    gi_wp2_with fail
    have hK2 : ((w1.setCell ⟨w.heap.size + 2, 0, none⟩ (S out)).setCell ⟨w.heap.size + 3, 0, none⟩ (.int .i64 0)).heap[w.heap.size + 7]? = some (.deferred (some [])) := (Below.heap_setCell _ _ _ _ (by simp)).trans ((Below.heap_setCell _ _ _ _ (by simp)).trans hK1)
    have g0 := (((hM1.r0.set (S out)).setOther (c := w.heap.size + 3) (o := 0) (by omega) (.int .i64 0)).putD (l := w.heap.size + 7) hK2 (.deferred none)).cell
    have g1 := (((hM1.r1.setOther (c := w.heap.size + 2) (o := 0) (by omega) (S out)).set (.int .i64 0)).putD (l := w.heap.size + 7) hK2 (.deferred none)).cell
    refine ⟨by simp, .inl ⟨_, _, rfl, run_takeDeferred hK2, ?_⟩⟩
    refine ⟨.tuple #[S out, .int .i64 0], by simp [results, Try.results102, go_sem, g0, g1], ?_, ?_⟩
    · rw [hun.out]
    · exact below_putD ((hM1.below.setCell (p := ⟨w.heap.size + 2, 0, none⟩) (show _ ≤ w.heap.size + 2 by omega) _).setCell (p := ⟨w.heap.size + 3, 0, none⟩) (show _ ≤ w.heap.size + 3 by omega) _) (by omega) (by have := hM1.size; simp [World.setCell]; omega) _
  case stop =>
    rintro c W ⟨rfl, z, hz, h0, h1, h2, h3⟩ hK
    rw [hs0] at hK ⊢
    have hf0 := h0.frozen
    have hf1 := h1.frozen
    have hc0 := h0.cell
    have hc1 := h1.cell
    have HZ := Lib.hid hz
    clear hz
    gi_wp2_with fail
    have g0 := (h0.putD (l := w.heap.size + 7) hK (.deferred none)).cell
    have g1 := (h1.putD (l := w.heap.size + 7) hK (.deferred none)).cell
    refine ⟨by simp, .inl ⟨_, _, rfl, run_takeDeferred hK, ?_⟩⟩
    refine ⟨.tuple #[S [], .int .i64 z], by simp [results, Try.results102, go_sem, g0, g1], ?_, ?_⟩
    · rw [HZ.out]
    · exact below_putD h2 (by omega) (by omega) _

set_option maxHeartbeats 400000 in
theorem parse_any (s : List UInt8) (w : World) (hs : s.length ≤ 1000000) :
    Calls Try.prog 92 #[S s] w fun e w' => e = .returned (.tuple #[S (Lb.parse s).1, .int .i64 (Lb.parse s).2]) ∧ Below w.heap.size w w' := by
  obtain ⟨⟨l, z⟩, hu⟩ : ∃ p, Lb.unesc [46] s = p := ⟨_, rfl⟩
  have hl := Lb.unesc_len [46] s
  rw [hu] at hl
  have HP : Hid (Lb.parse s = if z = 0 then (if Lb.check l.length = 0 then (l, 0) else ([], Lb.check l.length)) else ([], z)) := by unfold Hid; simp only [Lb.parse, hu]
  have HU := Lib.hid hu
  clear hu
  simp only at hl
  obtain ⟨c, hc⟩ : ∃ c, Lb.check l.length = c := ⟨_, rfl⟩
  rw [hc] at HP
  have HC := Lib.hid hc
  clear hc
  by_cases hz : z = 0
  · subst hz
    by_cases hc0 : c = 0
    · subst hc0
      go_enter Try.func92, Try.ntmps92
      go_wp2_with (first
        | (go_at_call 102; refine (unescape_any s [46] _ hs).mono ?_; rintro e w1 ⟨rfl, hb1⟩; rw [HU.out])
        | (go_at_call 56; refine (check_any l _ (by omega)).mono ?_; rintro e w2 ⟨rfl, rfl⟩; rw [HC.out]))
      go_ret2
      exact ⟨by rw [HP.out]; rfl, hb1⟩
    · have hc1 : (c != 0) = true := by simpa using hc0
      have hc2 : (c == 0) = false := by simpa using hc0
      have H0 := Lib.hid hc0
      clear hc0
      go_enter Try.func92, Try.ntmps92
      go_wp2_with (first
        | (go_at_call 102; refine (unescape_any s [46] _ hs).mono ?_; rintro e w1 ⟨rfl, hb1⟩; rw [HU.out])
        | (go_at_call 56; refine (check_any l _ (by omega)).mono ?_; rintro e w2 ⟨rfl, rfl⟩; rw [HC.out]))
      go_ret2
      exact ⟨by rw [HP.out]; simp [H0.out], hb1⟩
  · have hc1 : (z != 0) = true := by simpa using hz
    have hc2 : (z == 0) = false := by simpa using hz
    have H0 := Lib.hid hz
    clear hz
    go_enter Try.func92, Try.ntmps92
    go_wp2_with (go_at_call 102; refine (unescape_any s [46] _ hs).mono ?_; rintro e w1 ⟨rfl, hb1⟩; rw [HU.out])
    go_ret2
    exact ⟨by rw [HP.out, if_neg H0.out]; rfl, hb1⟩
end Go.Proofs.Ytikibmeopndncaa
