/- The reference's lexer ends a word. -/
import Derived.Test.YticljagcigiejaaTkI
namespace Go.Proofs.Yticljagcigiejaa
open Go.RowKit Go.Shelf
set_option maxRecDepth 100000

theorem Tk.Rest.lts {TE TW Z b Fz vo vw vp us st} {W : World} (h : Tk.Rest TE TW Z b Fz vo vw vp us st W) {g : Nat} (hg : Fz g ∨ vo.ownBlock = some g ∨ vw.ownBlock = some g ∨ vp.ownBlock = some g) : g < W.heap.size := by
  rcases hg with h1 | h1 | h1 | h1
  · exact (h.fl g h1).2.2
  · exact Tk.row_lt h.ro h1
  · exact Tk.row_lt h.rw h1
  · exact Tk.row_lt h.rp h1
theorem Tk.Rest.kept2 {TE TW Z b Fz vo vw vp us st} {W W' : World} (h : Tk.Rest TE TW Z b Fz vo vw vp us st W) (hs : W.heap.size ≤ W'.heap.size) (hk : ∀ g, (Fz g ∨ vo.ownBlock = some g ∨ vw.ownBlock = some g ∨ vp.ownBlock = some g) → W'.heap[g]? = W.heap[g]?) : Tk.Rest TE TW Z b Fz vo vw vp us st W' :=
  ⟨h.bz, by have := h.bl; omega, fun g hg => by have := h.zl g hg; omega, fun g hg => by have := h.fl g hg; exact ⟨this.1, this.2.1, by omega⟩, h.ul,
    fun i hi => (h.uw i hi).kept (fun _ h => h) hs (fun g hg _ => hk g (.inl hg)),
    h.rp.kept fun g c t f hv hg => (hk g (.inr (.inr (.inr hv)))).trans hg, h.ro.kept fun g c t f hv hg => (hk g (.inr (.inl hv))).trans hg, h.rw.kept fun g c t f hv hg => (hk g (.inr (.inr (.inl hv)))).trans hg⟩
/-- a row that was made since W0 has grown -/
theorem Tk.Rest.grownFresh {TE TW Z b Fz vo vw vp us st} {W0 W W' : World} {row : Option Nat} (h0 : Tk.Rest TE TW Z b Fz vo vw vp us st W0) (h : Tk.Rest TE TW Z b Fz vo vw vp us st W) (hg : W.grownBy W' row) (hr : ∀ k, row = some k → W0.heap.size ≤ k) : Tk.Rest TE TW Z b Fz vo vw vp us st W' :=
  h.kept2 hg.size fun g hh => hg.block g (h.lts hh) (fun e => by have := hr g e.symm; have := h0.lts hh; omega)
/-- other words instead, in a row that was made since W0 -/
theorem Tk.Rest.newW {TE TW Z b Fz vo vw vp us st} {W0 W : World} (h : Tk.Rest TE TW Z b Fz vo vw vp us st W) (h0 : Tk.Rest TE TW Z b Fz vo vw vp us st W0) {v : Value} {ws : List Tk.Wd} (hr : Row (fun g => W0.heap.size ≤ g) TW 2 v ws.length (Tk.cellsW ws) W) : Tk.Rest TE TW Z b Fz vo v vp us { st with words := ws } W :=
  ⟨h.bz, h.bl, h.zl, h.fl, h.ul, h.uw, h.rp, h.ro, hr.mono fun g hg => ⟨⟨⟨fun e => by have := h0.zl g e; omega, fun e => by have := h0.bl; omega, fun e => by have := (h0.fl g e).2.2; omega⟩, fun e => by have := h0.lts (.inr (.inr (.inr e))); omega⟩, fun e => by have := h0.lts (.inr (.inl e)); omega⟩⟩

section
variable {F : Fence} {n : Nat} {P : Program}
/-- APPEND, of words that are read, to a row of the call's own -/
theorem append_wd (R A : Nat → Prop) {ops : Array Oper} {rest : List Oper} {o : Oper} {a : Act} {w : World} {Q : Exit → Act → World → Prop}
    (hg : o.guard = none) (s x : Operand) (t : TypeId) (hop : o.op = Op.call { callee := Callee.builtin Builtin.append, args := #[s, x], argTypes := #[t, t] })
    (e : TypeId) (i : TypeInfo) (h1 : P.underlying t = some (.slice e)) (h2 : P.info? e = some i) (h3 : i.zero = some (.agg #[.string ⟨#[]⟩, .bool false])) (h4 : i.size = 2) (h5 : i.bytes = 24)
    (v : Value) (k : Nat) (xs : List Tk.Wd) (hs : a.eval s = v) (hrow : Row R e 2 v k (Tk.cellsW xs) w) (u : Value) (ws : List Tk.Wd) (hx : a.eval x = u) (hu : Tk.WdRd A u ws w) (hb : k + ws.length ≤ 2000000) (hR : R w.heap.size)
    (hK : ∀ v' w', Row R e 2 v' (k + ws.length) (Tk.cellsW (xs ++ ws)) w' → w.grownBy w' v.ownBlock → wpListIn F n P ops Q rest (a.put o.dst v') w') :
    wpListIn F n P ops Q (o :: rest) a w := by
  rcases hu with ⟨rfl, rfl⟩ | ⟨g, cap, rfl, c1, c2, c3, c4, c5⟩
  · refine wpListIn_plain hg fun K hK' => ?_
    have hrun := run_append_owned_none (P := P) (w := w) 0 t o.type e i 2 h1 h2 v k _ hrow.1
    unfold Oper.wpIn
    refine ⟨?_, ?_⟩
    · simp [Oper.about, hop, resolve, Target.leads, Sem.run_pure]
    · rw [Oper.semAt_plain F _ _ (by rw [hop]; intro c hc'; cases hc')]
      simp [execOp, hop, resolve, invoke, builtin, hs, hx, hrun, Result.andThen]
      exact hK' _ _ (hK _ _ (by simpa using hrow) ⟨rfl, rfl, rfl, Nat.le_refl _, fun _ _ _ => rfl⟩)
  · refine append_in R hg s x t hop e i (.agg #[.string ⟨#[]⟩, .bool false]) 2 24 h1 h2 h3 h4 h5 rfl (by decide) v k (Tk.cellsW xs) hs hrow ⟨g, 0, none⟩ ws.length cap (Tk.cellsW ws) hx (Tk.cellsW_len ws) (fun j u hj => ?_) (fun u hu => ?_) (by unfold maxLen; omega) (by omega) hR (fun v' w' hr hgr _ => hK v' w' (by simpa [Tk.cellsW] using hr) hgr)
    · obtain ⟨hjl, rfl⟩ := List.getElem?_eq_some_iff.1 hj
      have := c5 j hjl
      rw [show (⟨g, 0, none⟩ : Addr).add j = ⟨g, j, none⟩ by unfold Addr.add; split <;> simp_all]
      exact this
    · simp only [Tk.cellsW, List.mem_flatMap] at hu
      obtain ⟨x, _, hx⟩ := hu
      simp at hx
      rcases hx with rfl | rfl <;> rfl
end
theorem row_none (w : World) (t : TypeId) (sz : Nat) : Row (fun g => w.heap.size ≤ g) t sz (.slice (some ⟨w.heap.size, 0, none⟩) 0 0) 0 [] (w.alloc (.cells #[] t)) :=
  ⟨World.ownsRow_lit w #[] 0 (Nat.zero_le _) (by unfold maxLen; omega) (by simp), fun g hg => by cases hg; exact Nat.le_refl _⟩

set_option maxHeartbeats 4000000 in
theorem rflush_any (Z : Nat → Prop) (b : Nat) (x : Tk.Lx) (q : Bool) (n : Nat) (w : World) (h : Tk.LxRd Z b x w) (hwl : x.words.length ≤ 1000000) :
    Calls Try.prog 56 #[.pointer (some ⟨b, 0, none⟩), .bool q, .int .i64 n] w fun e w' => e = .returned (.tuple #[]) ∧ Tk.LxRd Z b (x.flush q n) w' ∧ Keep Z w w' := by
  obtain ⟨out, line, blank, words, on, opn, first, wd, inn⟩ := x
  obtain ⟨Fz, vo, vw, us, hc, hr⟩ := h
  simp only at hc hwl
  obtain ⟨i0, hi, hz0, hz1, hz2⟩ := info_parts info_rWord
  obtain ⟨o, cap, rfl⟩ := hr.rw.form
  simp only [Tk.Lx.st] at hc hr
  have c1 := cells_of hc 1 _ rfl
  have c3 := cells_of hc 3 _ rfl
  have c8 := cells_of hc 8 _ rfl
  have hz := frozen_of hc
  have hb := hr.bl
  have HR := Lib.hid hr
  have HC := Lib.hid hc
  have HI := Lib.hid hi
  have HZ0 := Lib.hid hz0
  have HZ1 := Lib.hid hz1
  have HZ2 := Lib.hid hz2
  clear hr hc hi hz0 hz1 hz2
  by_cases hne : inn = false ∧ q = false
  · obtain ⟨rfl, rfl⟩ := hne
    go_enter Try.func56, Try.ntmps56
    go_wp2_with fail
    refine bodyPost_ret (results_none rfl _ _ _) rfl ?_
    exact ⟨rfl, ⟨Fz, _, _, us, HC.out, HR.out⟩, Keep.refl _ _⟩
  have hq : inn = true ∨ inn = false ∧ q = true := by cases inn <;> cases q <;> simp_all
  clear hne
  have hkk : words = [] ∨ words ≠ [] := by by_cases h : words = []; exact .inl h; exact .inr h
  rcases hq with rfl | ⟨rfl, rfl⟩
  · rcases hkk with hk | hk
    · skip
      have HK := Lib.hid hk
      have hk0 : ((words.length : Int) == 0) = true := by rw [hk]; rfl
      have hk2 : (words.length : Int) ≤ 1000000 := by omega
      clear hk
      refine (callsIn_wide (n := 0)).1 ?_
      refine callsIn_of_wp Try.func56 rfl trivial ?_ rfl
      simp only [Try.ntmps56, List.size_toArray, List.length_cons, List.length_nil, Nat.reduceAdd, Nat.reduceSub, Array.replicate_succ, Array.replicate_zero, List.push_toArray, List.append_toArray, List.nil_append, List.cons_append]
      gi_wp2_with fail
      obtain ⟨W1, hW1, HC1, HR1, HK1⟩ : ∃ W1, w.setCell ⟨b, 1, none⟩ (.int .i64 n) = W1 ∧ Hid (W1.heap[b]? = some (.cells #[vo, .int .i64 ((if words = [] then n else line : Nat) : Int), .bool blank, .slice o words.length cap, .bool on, .int .i64 opn, .int .i64 first, S wd, .bool true] 73 (0, 0))) ∧
          Hid (Tk.Rest 35 38 Z b Fz vo (.slice o words.length cap) (.slice none 0 0) us ⟨out, line, blank, words, []⟩ W1) ∧ Hid (Keep Z w W1) :=
        ⟨_, rfl, Lib.hid (by rw [if_pos HK.out]; exact block_set HC.out 1 _), Lib.hid (HR.out.set 1 _), Lib.hid ((Keep.refl _ _).setCell HR.out.bz _)⟩
      rw [hW1]
      clear hW1
      refine drawnH [1, 6, 7, 11, 13, 14, 15] (fun w' => w'.cell? ⟨b, 3, none⟩ = some (.slice o words.length cap) ∧ w'.cell? ⟨b, 7, none⟩ = some (S wd)) 20 rfl (by kernel_rfl) ?_
      intro w' hw'
      obtain ⟨HC2, HR2, HK2⟩ : Hid (w'.heap[b]? = _) ∧ Hid (Tk.Rest _ _ _ _ _ _ _ _ _ _ w') ∧ Hid (Keep Z w w') := by
        subst hw'; exact ⟨HC1, Lib.hid HR1.out.drew, Lib.hid HK1.out.drew⟩
      clear hw' HC1 HR1 HK1
      have hS : w'.cell? ⟨b, 3, none⟩ = some (.slice o words.length cap) ∧ w'.cell? ⟨b, 7, none⟩ = some (S wd) := ⟨cells_of HC2.out 3 _ rfl, cells_of HC2.out 7 _ rfl⟩
      have HWR := Lib.hid (Tk.WdRd.of_row HR2.out.rw)
      refine takeP 0 (v := ?qav0) (fun _ => trivial) (by rfl) (by kernel_rfl) (.inl ⟨by kernel_rfl, fun w1 _ => ?qay0⟩) ?_
      case qay0 => (go_simp; try first | rfl | (rw [if_pos (by omega)]) | (rw [if_neg (by omega)]) | (rw [if_neg (by simp; omega)]) | (split <;> first | (exfalso; omega) | rfl))
      refine takeP 2 (v := ?qav2) (fun _ => trivial) (by rfl) (by kernel_rfl) (.inl ⟨by kernel_rfl, fun w1 _ => ?qay2⟩) ?_
      case qay2 => (go_simp; try first | rfl | (rw [if_pos (by omega)]) | (rw [if_neg (by omega)]) | (rw [if_neg (by simp; omega)]) | (split <;> first | (exfalso; omega) | rfl))
      refine takeP 3 (v := ?qav3) (fun _ => trivial) (by rfl) (by kernel_rfl) (.inl ⟨by kernel_rfl, fun w1 _ => ?qay3⟩) ?_
      case qay3 => (go_simp; try first | rfl | (rw [if_pos (by omega)]) | (rw [if_neg (by omega)]) | (rw [if_neg (by simp; omega)]) | (split <;> first | (exfalso; omega) | rfl))
      refine takeP 4 (v := ?qav4) (fun _ => trivial) (by rfl) (by kernel_rfl) (.inl ⟨by kernel_rfl, fun w1 _ => ?qay4⟩) ?_
      case qay4 => (go_simp; try first | rfl | (rw [if_pos (by omega)]) | (rw [if_neg (by omega)]) | (rw [if_neg (by simp; omega)]) | (split <;> first | (exfalso; omega) | rfl))
      refine takeP 5 (v := ?qav5) (fun _ => trivial) (by rfl) (by kernel_rfl) (.inl ⟨by kernel_rfl, fun w1 _ => ?qay5⟩) ?_
      case qay5 => (go_simp; try first | rfl | (rw [if_pos (by omega)]) | (rw [if_neg (by omega)]) | (rw [if_neg (by simp; omega)]) | (split <;> first | (exfalso; omega) | rfl))
      refine takeP 8 (v := ?qav8) (fun _ => trivial) (by rfl) (by kernel_rfl) (.inl ⟨by kernel_rfl, fun w1 _ => ?qay8⟩) ?_
      case qay8 => (go_simp; try first | rfl | (rw [if_pos (by omega)]) | (rw [if_neg (by omega)]) | (rw [if_neg (by simp; omega)]) | (split <;> first | (exfalso; omega) | rfl))
      refine takeP 9 (v := ?qav9) (fun _ => trivial) (by rfl) (by kernel_rfl) (.inl ⟨by kernel_rfl, fun w1 _ => ?qay9⟩) ?_
      case qay9 => (go_simp; try first | rfl | (rw [if_pos (by omega)]) | (rw [if_neg (by omega)]) | (rw [if_neg (by simp; omega)]) | (split <;> first | (exfalso; omega) | rfl))
      refine takeP 10 (v := ?qav10) (fun _ => trivial) (by rfl) (by kernel_rfl) (.inl ⟨by kernel_rfl, fun w1 _ => ?qay10⟩) ?_
      case qay10 => (go_simp; try first | rfl | (rw [if_pos (by omega)]) | (rw [if_neg (by omega)]) | (rw [if_neg (by simp; omega)]) | (split <;> first | (exfalso; omega) | rfl))
      refine takeP 12 (v := ?qav12) (fun _ => trivial) (by rfl) (by kernel_rfl) (.inl ⟨by kernel_rfl, fun w1 _ => ?qay12⟩) ?_
      case qay12 => (go_simp; try first | rfl | (rw [if_pos (by omega)]) | (rw [if_neg (by omega)]) | (rw [if_neg (by simp; omega)]) | (split <;> first | (exfalso; omega) | rfl))
      refine takeH 6 (v := ?qav6) (fun _ => trivial) (by rfl) (by kernel_rfl) hS (.inl ⟨by kernel_rfl, fun w1 ⟨a1, a2⟩ => ?qay6⟩) ?_
      case qay6 => (go_simp; try first | rfl | (rw [if_pos (by omega)]) | (rw [if_neg (by omega)]) | (rw [if_neg (by simp; omega)]) | (split <;> first | (exfalso; omega) | rfl))
      refine takeH 11 (v := ?qav11) (fun _ => trivial) (by rfl) (by kernel_rfl) hS (.inl ⟨by kernel_rfl, fun w1 ⟨a1, a2⟩ => ?qay11⟩) ?_
      case qay11 => (go_simp; try first | rfl | (rw [if_pos (by omega)]) | (rw [if_neg (by omega)]) | (rw [if_neg (by simp; omega)]) | (split <;> first | (exfalso; omega) | rfl))
      refine takeH 13 (v := ?qav13) (fun _ => trivial) (by rfl) (by kernel_rfl) hS (.inl ⟨by kernel_rfl, fun w1 ⟨a1, a2⟩ => ?qay13⟩) ?_
      case qay13 => (go_simp; try first | rfl | (rw [if_pos (by omega)]) | (rw [if_neg (by omega)]) | (rw [if_neg (by simp; omega)]) | (split <;> first | (exfalso; omega) | rfl))
      refine twoH 1 14 (by rfl) (by rfl) (by kernel_rfl) (fun K hK => ?_) (fun K hK => ?_)
      · skip
        gi_wp2_with fail
        have HR3 := Lib.hid (HR2.out.alloc (.cells #[] 38))
        have HK3 := Lib.hid (HR2.out.keepAlloc HK2.out (.cells #[] 38))
        have HC3 := Lib.hid ((Below.heap_alloc w' (.cells #[] 38) b HR2.out.bl).trans HC2.out)
        have HROW := Lib.hid (show Row (fun g => w'.heap.size ≤ g) 38 2 _ 0 (Tk.cellsW []) _ from (row_none w' 38 2).mono fun g hg => by exact hg)
        have HSZ3 : w'.heap.size ≤ (w'.alloc (.cells #[] 38)).heap.size := by simp
        obtain ⟨W3, hW3⟩ : ∃ W, w'.alloc (.cells #[] 38) = W := ⟨_, rfl⟩
        rw [hW3] at HR3 HK3 HC3 HROW HSZ3
        refine hK _ _ (fun _ => by rw [hW3]; exact ⟨cells_of HC3.out 3 _ rfl, cells_of HC3.out 7 _ rfl⟩) ?_
        have hgt3 : w'.heap.size < W3.heap.size := by rw [← hW3]; simp
        clear hK K
        rw [hW3]
        refine twoH 7 14 (by rfl) (by rfl) (by kernel_rfl) (fun K hK => ?_) (fun K hK => ?_)
        · skip
          gi_wp2_with (gi_at_builtin; refine append_wd (fun g => w'.heap.size ≤ g) (fun g => (Value.slice o words.length cap).ownBlock = some g) rfl _ _ 33 rfl 38 i0 Try.underlying33 HI.out HZ0.out HZ1.out HZ2.out _ 0 [] (by rfl) HROW.out _ words (by rfl) (Tk.WdRd.of_row HR3.out.rw) (by omega) HSZ3 ?_; intro v7 W4 hrow7 hgr7)
          simp only [Nat.zero_add, List.nil_append] at hrow7
          obtain ⟨o7, cap7, rfl⟩ := hrow7.form
          have HR4 := Lib.hid (HR2.out.grownFresh HR3.out hgr7 (fun k hk => HROW.out.2 k hk))
          have HC4 := Lib.hid ((hgr7.block b HR3.out.bl (fun e => by have := HROW.out.2 b e.symm; have := HR2.out.bl; omega)).trans HC3.out)
          have HK4 := Lib.hid (HK3.out.grown hgr7 (HROW.out.keepsOthers hgr7) HR3.out.zl (fun k hk hz => by have := HROW.out.2 k hk; have := HR2.out.zl k hz; omega))
          have HSZ4 : w'.heap.size ≤ W4.heap.size := by have := HSZ3; have := hgr7.size; omega
          replace HROW := Lib.hid hrow7
          refine hK _ _ (fun _ => ⟨cells_of HC4.out 3 _ rfl, cells_of HC4.out 7 _ rfl⟩) ?_
          clear hK K hrow7 hgr7
          refine oneH 14 (by rfl) (by kernel_rfl) (fun K hK => ?_)
          gi_wp2_with fail
          have HR5 := Lib.hid (HR4.out.alloc (.cells #[S wd, .bool q] 38))
          have HK5 := Lib.hid (HR4.out.keepAlloc HK4.out (.cells #[S wd, .bool q] 38))
          have HC5 := Lib.hid ((Below.heap_alloc W4 (.cells #[S wd, .bool q] 38) b HR4.out.bl).trans HC4.out)
          have HL := Lib.hid (World.alloc_heap_new W4 (.cells #[S wd, .bool q] 38))
          replace HROW := Lib.hid (HROW.out.alloc (.cells #[S wd, .bool q] 38))
          have HSZ5 : w'.heap.size ≤ (W4.alloc (.cells #[S wd, .bool q] 38)).heap.size := by have := HSZ4; simp; omega
          obtain ⟨W5, hW5⟩ : ∃ W, W4.alloc (.cells #[S wd, .bool q] 38) = W := ⟨_, rfl⟩
          rw [hW5] at HR5 HK5 HC5 HL HSZ5 HROW
          refine hK _ _ (fun _ => by rw [hW5]; exact ⟨cells_of HC5.out 3 _ rfl, cells_of HC5.out 7 _ rfl⟩) ?_
          clear hK K
          rw [hW5]
          refine oneH 15 (by rfl) (by kernel_rfl) (fun K hK => ?_)
          gi_wp2_with (gi_at_builtin; refine append_in (fun g => w'.heap.size ≤ g) rfl _ _ 33 rfl 38 i0 (.agg #[.string ⟨#[]⟩, .bool false]) 2 24 Try.underlying33 HI.out HZ0.out HZ1.out HZ2.out rfl (by decide) _ words.length (Tk.cellsW words) (by rfl) HROW.out ⟨W4.heap.size, 0, none⟩ 1 1 [S wd, .bool q] (by rfl) (by rfl) (fun j u hj => by match j, hj with | 0, hj => cases hj; exact cells_of HL.out 0 _ rfl | 1, hj => cases hj; exact cells_of HL.out 1 _ rfl | j + 2, hj => simp at hj) (by intro u hu; simp at hu; rcases hu with rfl | rfl <;> rfl) (by unfold maxLen; omega) (by omega) HSZ5 ?_; intro v15 w15 hrow15 hgr15 _)
          obtain ⟨o15, cap15, rfl⟩ := hrow15.form
          have HR15 := Lib.hid ((HR2.out.grownFresh HR5.out hgr15 (fun k hk => HROW.out.2 k hk)).newW HR2.out (ws := words ++ [(wd, q)]) (by rw [Tk.cellsW_snoc]; simpa using hrow15))
          have HC15 := Lib.hid ((hgr15.block b HR5.out.bl (fun e => by have := HROW.out.2 b e.symm; have := HR2.out.bl; omega)).trans HC5.out)
          have HK15 := Lib.hid (HK5.out.grown hgr15 (HROW.out.keepsOthers hgr15) HR5.out.zl (fun k hk hz => by have := HROW.out.2 k hk; have := HR2.out.zl k hz; omega))
          have c3' := cells_of HC15.out 3 _ rfl
          have c7' := cells_of HC15.out 7 _ rfl
          have c8' := cells_of HC15.out 8 _ rfl
          have hz' := frozen_of HC15.out
          have hb' := HR15.out.bl
          refine hK _ _ (fun _ => ⟨c3', c7'⟩) ?_
          clear hK K hrow15 hgr15
          refine takeP 16 (v := ?qaxv16) (fun _ => trivial) (by rfl) (by kernel_rfl) (.inl ⟨by kernel_rfl, fun w1 _ => ?qaxy16⟩) ?_
          case qaxy16 => (go_simp; try first | rfl | (rw [if_pos (by omega)]) | (rw [if_neg (by omega)]) | (rw [if_neg (by simp; omega)]) | (split <;> first | (exfalso; omega) | rfl))
          refine takeP 17 (v := ?qaxv17) (fun _ => trivial) (by rfl) (by kernel_rfl) (.inl ⟨by kernel_rfl, fun w1 _ => ?qaxy17⟩) ?_
          case qaxy17 => (go_simp; try first | rfl | (rw [if_pos (by omega)]) | (rw [if_neg (by omega)]) | (rw [if_neg (by simp; omega)]) | (split <;> first | (exfalso; omega) | rfl))
          refine takeP 18 (v := ?qaxv18) (fun _ => trivial) (by rfl) (by kernel_rfl) (.inl ⟨by kernel_rfl, fun w1 _ => ?qaxy18⟩) ?_
          case qaxy18 => (go_simp; try first | rfl | (rw [if_pos (by omega)]) | (rw [if_neg (by omega)]) | (rw [if_neg (by simp; omega)]) | (split <;> first | (exfalso; omega) | rfl))
          refine oneH 19 (by rfl) (by kernel_rfl) (fun K hK => ?_)
          gi_wp2_with fail
          refine hK _ _ (fun h => absurd h (by decide)) ?_
          clear hK K
          refine doneH (by kernel_rfl) ?_
          gi_wp2_with fail
          go_end0
          refine ⟨rfl, ?_, ((HK15.out.setCell HR15.out.bz _).setCell HR15.out.bz _).setCell HR15.out.bz _⟩
          unfold Tk.Lx.flush
          rw [if_neg (by simp)]
          exact ⟨Fz, vo, .slice o15 (words.length + 1) cap15, us, block_set (block_set (block_set HC15.out 3 _) 7 (S [])) 8 (.bool false), (((HR15.out.set 3 _).set 7 _).set 8 _).line _ _⟩
        · skip
          gi_wp2_with fail
          have HR4 := Lib.hid (HR3.out.alloc (.cells #[S wd, .bool q] 38))
          have HK4 := Lib.hid (HR3.out.keepAlloc HK3.out (.cells #[S wd, .bool q] 38))
          have HC4 := Lib.hid ((Below.heap_alloc W3 (.cells #[S wd, .bool q] 38) b HR3.out.bl).trans HC3.out)
          have HL := Lib.hid (World.alloc_heap_new W3 (.cells #[S wd, .bool q] 38))
          replace HROW := Lib.hid (HROW.out.alloc (.cells #[S wd, .bool q] 38))
          have HSZ4 : w'.heap.size ≤ (W3.alloc (.cells #[S wd, .bool q] 38)).heap.size := by have := HSZ3; simp; omega
          obtain ⟨W4, hW4⟩ : ∃ W, W3.alloc (.cells #[S wd, .bool q] 38) = W := ⟨_, rfl⟩
          rw [hW4] at HR4 HK4 HC4 HL HSZ4 HROW
          refine hK _ _ (fun _ => by rw [hW4]; exact ⟨cells_of HC4.out 3 _ rfl, cells_of HC4.out 7 _ rfl⟩) ?_
          clear hK K
          rw [hW4]
          refine oneH 7 (by rfl) (by kernel_rfl) (fun K hK => ?_)
          gi_wp2_with (gi_at_builtin; refine append_wd (fun g => w'.heap.size ≤ g) (fun g => (Value.slice o words.length cap).ownBlock = some g) rfl _ _ 33 rfl 38 i0 Try.underlying33 HI.out HZ0.out HZ1.out HZ2.out _ 0 [] (by rfl) HROW.out _ words (by rfl) (Tk.WdRd.of_row HR4.out.rw) (by omega) HSZ4 ?_; intro v7 W5 hrow7 hgr7)
          simp only [Nat.zero_add, List.nil_append] at hrow7
          obtain ⟨o7, cap7, rfl⟩ := hrow7.form
          have HR5 := Lib.hid (HR2.out.grownFresh HR4.out hgr7 (fun k hk => HROW.out.2 k hk))
          have HC5 := Lib.hid ((hgr7.block b HR4.out.bl (fun e => by have := HROW.out.2 b e.symm; have := HR2.out.bl; omega)).trans HC4.out)
          have HK5 := Lib.hid (HK4.out.grown hgr7 (HROW.out.keepsOthers hgr7) HR4.out.zl (fun k hk hz => by have := HROW.out.2 k hk; have := HR2.out.zl k hz; omega))
          have HSZ5 : w'.heap.size ≤ W5.heap.size := by have := HSZ4; have := hgr7.size; omega
          replace HL := Lib.hid ((hgr7.block _ (Array.getElem?_eq_some_iff.1 HL.out).1 (fun e => by simp [Value.ownBlock] at e; omega)).trans HL.out)
          replace HROW := Lib.hid hrow7
          refine hK _ _ (fun _ => ⟨cells_of HC5.out 3 _ rfl, cells_of HC5.out 7 _ rfl⟩) ?_
          clear hK K hrow7 hgr7
          refine oneH 15 (by rfl) (by kernel_rfl) (fun K hK => ?_)
          gi_wp2_with (gi_at_builtin; refine append_in (fun g => w'.heap.size ≤ g) rfl _ _ 33 rfl 38 i0 (.agg #[.string ⟨#[]⟩, .bool false]) 2 24 Try.underlying33 HI.out HZ0.out HZ1.out HZ2.out rfl (by decide) _ words.length (Tk.cellsW words) (by rfl) HROW.out ⟨W3.heap.size, 0, none⟩ 1 1 [S wd, .bool q] (by rfl) (by rfl) (fun j u hj => by match j, hj with | 0, hj => cases hj; exact cells_of HL.out 0 _ rfl | 1, hj => cases hj; exact cells_of HL.out 1 _ rfl | j + 2, hj => simp at hj) (by intro u hu; simp at hu; rcases hu with rfl | rfl <;> rfl) (by unfold maxLen; omega) (by omega) HSZ5 ?_; intro v15 w15 hrow15 hgr15 _)
          obtain ⟨o15, cap15, rfl⟩ := hrow15.form
          have HR15 := Lib.hid ((HR2.out.grownFresh HR5.out hgr15 (fun k hk => HROW.out.2 k hk)).newW HR2.out (ws := words ++ [(wd, q)]) (by rw [Tk.cellsW_snoc]; simpa using hrow15))
          have HC15 := Lib.hid ((hgr15.block b HR5.out.bl (fun e => by have := HROW.out.2 b e.symm; have := HR2.out.bl; omega)).trans HC5.out)
          have HK15 := Lib.hid (HK5.out.grown hgr15 (HROW.out.keepsOthers hgr15) HR5.out.zl (fun k hk hz => by have := HROW.out.2 k hk; have := HR2.out.zl k hz; omega))
          have c3' := cells_of HC15.out 3 _ rfl
          have c7' := cells_of HC15.out 7 _ rfl
          have c8' := cells_of HC15.out 8 _ rfl
          have hz' := frozen_of HC15.out
          have hb' := HR15.out.bl
          refine hK _ _ (fun _ => ⟨c3', c7'⟩) ?_
          clear hK K hrow15 hgr15
          refine takeP 16 (v := ?qayv16) (fun _ => trivial) (by rfl) (by kernel_rfl) (.inl ⟨by kernel_rfl, fun w1 _ => ?qayy16⟩) ?_
          case qayy16 => (go_simp; try first | rfl | (rw [if_pos (by omega)]) | (rw [if_neg (by omega)]) | (rw [if_neg (by simp; omega)]) | (split <;> first | (exfalso; omega) | rfl))
          refine takeP 17 (v := ?qayv17) (fun _ => trivial) (by rfl) (by kernel_rfl) (.inl ⟨by kernel_rfl, fun w1 _ => ?qayy17⟩) ?_
          case qayy17 => (go_simp; try first | rfl | (rw [if_pos (by omega)]) | (rw [if_neg (by omega)]) | (rw [if_neg (by simp; omega)]) | (split <;> first | (exfalso; omega) | rfl))
          refine takeP 18 (v := ?qayv18) (fun _ => trivial) (by rfl) (by kernel_rfl) (.inl ⟨by kernel_rfl, fun w1 _ => ?qayy18⟩) ?_
          case qayy18 => (go_simp; try first | rfl | (rw [if_pos (by omega)]) | (rw [if_neg (by omega)]) | (rw [if_neg (by simp; omega)]) | (split <;> first | (exfalso; omega) | rfl))
          refine oneH 19 (by rfl) (by kernel_rfl) (fun K hK => ?_)
          gi_wp2_with fail
          refine hK _ _ (fun h => absurd h (by decide)) ?_
          clear hK K
          refine doneH (by kernel_rfl) ?_
          gi_wp2_with fail
          go_end0
          refine ⟨rfl, ?_, ((HK15.out.setCell HR15.out.bz _).setCell HR15.out.bz _).setCell HR15.out.bz _⟩
          unfold Tk.Lx.flush
          rw [if_neg (by simp)]
          exact ⟨Fz, vo, .slice o15 (words.length + 1) cap15, us, block_set (block_set (block_set HC15.out 3 _) 7 (S [])) 8 (.bool false), (((HR15.out.set 3 _).set 7 _).set 8 _).line _ _⟩
      · skip
        gi_wp2_with fail
        have HR3 := Lib.hid (HR2.out.alloc (.cells #[S wd, .bool q] 38))
        have HK3 := Lib.hid (HR2.out.keepAlloc HK2.out (.cells #[S wd, .bool q] 38))
        have HC3 := Lib.hid ((Below.heap_alloc w' (.cells #[S wd, .bool q] 38) b HR2.out.bl).trans HC2.out)
        have HL := Lib.hid (World.alloc_heap_new w' (.cells #[S wd, .bool q] 38))
        have HSZ3 : w'.heap.size ≤ (w'.alloc (.cells #[S wd, .bool q] 38)).heap.size := by simp
        obtain ⟨W3, hW3⟩ : ∃ W, w'.alloc (.cells #[S wd, .bool q] 38) = W := ⟨_, rfl⟩
        rw [hW3] at HR3 HK3 HC3 HL HSZ3
        refine hK _ _ (fun _ => by rw [hW3]; exact ⟨cells_of HC3.out 3 _ rfl, cells_of HC3.out 7 _ rfl⟩) ?_
        clear hK K
        rw [hW3]
        refine oneH 1 (by rfl) (by kernel_rfl) (fun K hK => ?_)
        gi_wp2_with fail
        have HR4 := Lib.hid (HR3.out.alloc (.cells #[] 38))
        have HK4 := Lib.hid (HR3.out.keepAlloc HK3.out (.cells #[] 38))
        have HC4 := Lib.hid ((Below.heap_alloc W3 (.cells #[] 38) b HR3.out.bl).trans HC3.out)
        have HROW := Lib.hid (show Row (fun g => w'.heap.size ≤ g) 38 2 _ 0 (Tk.cellsW []) _ from (row_none W3 38 2).mono fun g hg => by have := HSZ3; omega)
        replace HL := Lib.hid ((Below.heap_alloc W3 (.cells #[] 38) _ (Array.getElem?_eq_some_iff.1 HL.out).1).trans HL.out)
        have HLR : w'.heap.size < W3.heap.size := by have := (Array.getElem?_eq_some_iff.1 HL.out).1; rw [← hW3]; simp
        have HSZ4 : w'.heap.size ≤ (W3.alloc (.cells #[] 38)).heap.size := by have := HSZ3; simp; omega
        obtain ⟨W4, hW4⟩ : ∃ W, W3.alloc (.cells #[] 38) = W := ⟨_, rfl⟩
        rw [hW4] at HR4 HK4 HC4 HROW HSZ4 HL
        refine hK _ _ (fun _ => by rw [hW4]; exact ⟨cells_of HC4.out 3 _ rfl, cells_of HC4.out 7 _ rfl⟩) ?_
        clear hK K
        rw [hW4]
        refine oneH 7 (by rfl) (by kernel_rfl) (fun K hK => ?_)
        gi_wp2_with (gi_at_builtin; refine append_wd (fun g => w'.heap.size ≤ g) (fun g => (Value.slice o words.length cap).ownBlock = some g) rfl _ _ 33 rfl 38 i0 Try.underlying33 HI.out HZ0.out HZ1.out HZ2.out _ 0 [] (by rfl) HROW.out _ words (by rfl) (Tk.WdRd.of_row HR4.out.rw) (by omega) HSZ4 ?_; intro v7 W5 hrow7 hgr7)
        simp only [Nat.zero_add, List.nil_append] at hrow7
        obtain ⟨o7, cap7, rfl⟩ := hrow7.form
        have HR5 := Lib.hid (HR2.out.grownFresh HR4.out hgr7 (fun k hk => HROW.out.2 k hk))
        have HC5 := Lib.hid ((hgr7.block b HR4.out.bl (fun e => by have := HROW.out.2 b e.symm; have := HR2.out.bl; omega)).trans HC4.out)
        have HK5 := Lib.hid (HK4.out.grown hgr7 (HROW.out.keepsOthers hgr7) HR4.out.zl (fun k hk hz => by have := HROW.out.2 k hk; have := HR2.out.zl k hz; omega))
        have HSZ5 : w'.heap.size ≤ W5.heap.size := by have := HSZ4; have := hgr7.size; omega
        replace HL := Lib.hid ((hgr7.block _ (Array.getElem?_eq_some_iff.1 HL.out).1 (fun e => by simp [Value.ownBlock] at e; omega)).trans HL.out)
        replace HROW := Lib.hid hrow7
        refine hK _ _ (fun _ => ⟨cells_of HC5.out 3 _ rfl, cells_of HC5.out 7 _ rfl⟩) ?_
        clear hK K hrow7 hgr7
        refine oneH 15 (by rfl) (by kernel_rfl) (fun K hK => ?_)
        gi_wp2_with (gi_at_builtin; refine append_in (fun g => w'.heap.size ≤ g) rfl _ _ 33 rfl 38 i0 (.agg #[.string ⟨#[]⟩, .bool false]) 2 24 Try.underlying33 HI.out HZ0.out HZ1.out HZ2.out rfl (by decide) _ words.length (Tk.cellsW words) (by rfl) HROW.out ⟨w'.heap.size, 0, none⟩ 1 1 [S wd, .bool q] (by rfl) (by rfl) (fun j u hj => by match j, hj with | 0, hj => cases hj; exact cells_of HL.out 0 _ rfl | 1, hj => cases hj; exact cells_of HL.out 1 _ rfl | j + 2, hj => simp at hj) (by intro u hu; simp at hu; rcases hu with rfl | rfl <;> rfl) (by unfold maxLen; omega) (by omega) HSZ5 ?_; intro v15 w15 hrow15 hgr15 _)
        obtain ⟨o15, cap15, rfl⟩ := hrow15.form
        have HR15 := Lib.hid ((HR2.out.grownFresh HR5.out hgr15 (fun k hk => HROW.out.2 k hk)).newW HR2.out (ws := words ++ [(wd, q)]) (by rw [Tk.cellsW_snoc]; simpa using hrow15))
        have HC15 := Lib.hid ((hgr15.block b HR5.out.bl (fun e => by have := HROW.out.2 b e.symm; have := HR2.out.bl; omega)).trans HC5.out)
        have HK15 := Lib.hid (HK5.out.grown hgr15 (HROW.out.keepsOthers hgr15) HR5.out.zl (fun k hk hz => by have := HROW.out.2 k hk; have := HR2.out.zl k hz; omega))
        have c3' := cells_of HC15.out 3 _ rfl
        have c7' := cells_of HC15.out 7 _ rfl
        have c8' := cells_of HC15.out 8 _ rfl
        have hz' := frozen_of HC15.out
        have hb' := HR15.out.bl
        refine hK _ _ (fun _ => ⟨c3', c7'⟩) ?_
        clear hK K hrow15 hgr15
        refine takeP 16 (v := ?qazv16) (fun _ => trivial) (by rfl) (by kernel_rfl) (.inl ⟨by kernel_rfl, fun w1 _ => ?qazy16⟩) ?_
        case qazy16 => (go_simp; try first | rfl | (rw [if_pos (by omega)]) | (rw [if_neg (by omega)]) | (rw [if_neg (by simp; omega)]) | (split <;> first | (exfalso; omega) | rfl))
        refine takeP 17 (v := ?qazv17) (fun _ => trivial) (by rfl) (by kernel_rfl) (.inl ⟨by kernel_rfl, fun w1 _ => ?qazy17⟩) ?_
        case qazy17 => (go_simp; try first | rfl | (rw [if_pos (by omega)]) | (rw [if_neg (by omega)]) | (rw [if_neg (by simp; omega)]) | (split <;> first | (exfalso; omega) | rfl))
        refine takeP 18 (v := ?qazv18) (fun _ => trivial) (by rfl) (by kernel_rfl) (.inl ⟨by kernel_rfl, fun w1 _ => ?qazy18⟩) ?_
        case qazy18 => (go_simp; try first | rfl | (rw [if_pos (by omega)]) | (rw [if_neg (by omega)]) | (rw [if_neg (by simp; omega)]) | (split <;> first | (exfalso; omega) | rfl))
        refine oneH 19 (by rfl) (by kernel_rfl) (fun K hK => ?_)
        gi_wp2_with fail
        refine hK _ _ (fun h => absurd h (by decide)) ?_
        clear hK K
        refine doneH (by kernel_rfl) ?_
        gi_wp2_with fail
        go_end0
        refine ⟨rfl, ?_, ((HK15.out.setCell HR15.out.bz _).setCell HR15.out.bz _).setCell HR15.out.bz _⟩
        unfold Tk.Lx.flush
        rw [if_neg (by simp)]
        exact ⟨Fz, vo, .slice o15 (words.length + 1) cap15, us, block_set (block_set (block_set HC15.out 3 _) 7 (S [])) 8 (.bool false), (((HR15.out.set 3 _).set 7 _).set 8 _).line _ _⟩
    · skip
      have HK := Lib.hid hk
      have hk0 : ((words.length : Int) == 0) = false := by rw [beq_eq_false_iff_ne]; have := List.length_pos_iff.2 hk; omega
      have hk2 : (words.length : Int) ≤ 1000000 := by omega
      clear hk
      refine (callsIn_wide (n := 0)).1 ?_
      refine callsIn_of_wp Try.func56 rfl trivial ?_ rfl
      simp only [Try.ntmps56, List.size_toArray, List.length_cons, List.length_nil, Nat.reduceAdd, Nat.reduceSub, Array.replicate_succ, Array.replicate_zero, List.push_toArray, List.append_toArray, List.nil_append, List.cons_append]
      gi_wp2_with fail
      obtain ⟨W1, hW1, HC1, HR1, HK1⟩ : ∃ W1, w = W1 ∧ Hid (W1.heap[b]? = some (.cells #[vo, .int .i64 ((if words = [] then n else line : Nat) : Int), .bool blank, .slice o words.length cap, .bool on, .int .i64 opn, .int .i64 first, S wd, .bool true] 73 (0, 0))) ∧
          Hid (Tk.Rest 35 38 Z b Fz vo (.slice o words.length cap) (.slice none 0 0) us ⟨out, line, blank, words, []⟩ W1) ∧ Hid (Keep Z w W1) :=
        ⟨_, rfl, Lib.hid (by rw [if_neg HK.out]; exact HC.out), Lib.hid HR.out, Lib.hid (Keep.refl _ _)⟩
      rw [hW1]
      clear hW1
      refine drawnH [1, 6, 7, 11, 13, 14, 15] (fun w' => w'.cell? ⟨b, 3, none⟩ = some (.slice o words.length cap) ∧ w'.cell? ⟨b, 7, none⟩ = some (S wd)) 20 rfl (by kernel_rfl) ?_
      intro w' hw'
      obtain ⟨HC2, HR2, HK2⟩ : Hid (w'.heap[b]? = _) ∧ Hid (Tk.Rest _ _ _ _ _ _ _ _ _ _ w') ∧ Hid (Keep Z w w') := by
        subst hw'; exact ⟨HC1, Lib.hid HR1.out.drew, Lib.hid HK1.out.drew⟩
      clear hw' HC1 HR1 HK1
      have hS : w'.cell? ⟨b, 3, none⟩ = some (.slice o words.length cap) ∧ w'.cell? ⟨b, 7, none⟩ = some (S wd) := ⟨cells_of HC2.out 3 _ rfl, cells_of HC2.out 7 _ rfl⟩
      have HWR := Lib.hid (Tk.WdRd.of_row HR2.out.rw)
      refine takeP 0 (v := ?qbv0) (fun _ => trivial) (by rfl) (by kernel_rfl) (.inl ⟨by kernel_rfl, fun w1 _ => ?qby0⟩) ?_
      case qby0 => (go_simp; try first | rfl | (rw [if_pos (by omega)]) | (rw [if_neg (by omega)]) | (rw [if_neg (by simp; omega)]) | (split <;> first | (exfalso; omega) | rfl))
      refine takeP 2 (v := ?qbv2) (fun _ => trivial) (by rfl) (by kernel_rfl) (.inl ⟨by kernel_rfl, fun w1 _ => ?qby2⟩) ?_
      case qby2 => (go_simp; try first | rfl | (rw [if_pos (by omega)]) | (rw [if_neg (by omega)]) | (rw [if_neg (by simp; omega)]) | (split <;> first | (exfalso; omega) | rfl))
      refine takeP 3 (v := ?qbv3) (fun _ => trivial) (by rfl) (by kernel_rfl) (.inl ⟨by kernel_rfl, fun w1 _ => ?qby3⟩) ?_
      case qby3 => (go_simp; try first | rfl | (rw [if_pos (by omega)]) | (rw [if_neg (by omega)]) | (rw [if_neg (by simp; omega)]) | (split <;> first | (exfalso; omega) | rfl))
      refine takeP 4 (v := ?qbv4) (fun _ => trivial) (by rfl) (by kernel_rfl) (.inl ⟨by kernel_rfl, fun w1 _ => ?qby4⟩) ?_
      case qby4 => (go_simp; try first | rfl | (rw [if_pos (by omega)]) | (rw [if_neg (by omega)]) | (rw [if_neg (by simp; omega)]) | (split <;> first | (exfalso; omega) | rfl))
      refine takeP 5 (v := ?qbv5) (fun _ => trivial) (by rfl) (by kernel_rfl) (.inl ⟨by kernel_rfl, fun w1 _ => ?qby5⟩) ?_
      case qby5 => (go_simp; try first | rfl | (rw [if_pos (by omega)]) | (rw [if_neg (by omega)]) | (rw [if_neg (by simp; omega)]) | (split <;> first | (exfalso; omega) | rfl))
      refine takeP 8 (v := ?qbv8) (fun _ => trivial) (by rfl) (by kernel_rfl) (.inl ⟨by kernel_rfl, fun w1 _ => ?qby8⟩) ?_
      case qby8 => (go_simp; try first | rfl | (rw [if_pos (by omega)]) | (rw [if_neg (by omega)]) | (rw [if_neg (by simp; omega)]) | (split <;> first | (exfalso; omega) | rfl))
      refine takeP 9 (v := ?qbv9) (fun _ => trivial) (by rfl) (by kernel_rfl) (.inl ⟨by kernel_rfl, fun w1 _ => ?qby9⟩) ?_
      case qby9 => (go_simp; try first | rfl | (rw [if_pos (by omega)]) | (rw [if_neg (by omega)]) | (rw [if_neg (by simp; omega)]) | (split <;> first | (exfalso; omega) | rfl))
      refine takeP 10 (v := ?qbv10) (fun _ => trivial) (by rfl) (by kernel_rfl) (.inl ⟨by kernel_rfl, fun w1 _ => ?qby10⟩) ?_
      case qby10 => (go_simp; try first | rfl | (rw [if_pos (by omega)]) | (rw [if_neg (by omega)]) | (rw [if_neg (by simp; omega)]) | (split <;> first | (exfalso; omega) | rfl))
      refine takeP 12 (v := ?qbv12) (fun _ => trivial) (by rfl) (by kernel_rfl) (.inl ⟨by kernel_rfl, fun w1 _ => ?qby12⟩) ?_
      case qby12 => (go_simp; try first | rfl | (rw [if_pos (by omega)]) | (rw [if_neg (by omega)]) | (rw [if_neg (by simp; omega)]) | (split <;> first | (exfalso; omega) | rfl))
      refine takeH 6 (v := ?qbv6) (fun _ => trivial) (by rfl) (by kernel_rfl) hS (.inl ⟨by kernel_rfl, fun w1 ⟨a1, a2⟩ => ?qby6⟩) ?_
      case qby6 => (go_simp; try first | rfl | (rw [if_pos (by omega)]) | (rw [if_neg (by omega)]) | (rw [if_neg (by simp; omega)]) | (split <;> first | (exfalso; omega) | rfl))
      refine takeH 11 (v := ?qbv11) (fun _ => trivial) (by rfl) (by kernel_rfl) hS (.inl ⟨by kernel_rfl, fun w1 ⟨a1, a2⟩ => ?qby11⟩) ?_
      case qby11 => (go_simp; try first | rfl | (rw [if_pos (by omega)]) | (rw [if_neg (by omega)]) | (rw [if_neg (by simp; omega)]) | (split <;> first | (exfalso; omega) | rfl))
      refine takeH 13 (v := ?qbv13) (fun _ => trivial) (by rfl) (by kernel_rfl) hS (.inl ⟨by kernel_rfl, fun w1 ⟨a1, a2⟩ => ?qby13⟩) ?_
      case qby13 => (go_simp; try first | rfl | (rw [if_pos (by omega)]) | (rw [if_neg (by omega)]) | (rw [if_neg (by simp; omega)]) | (split <;> first | (exfalso; omega) | rfl))
      refine twoH 1 14 (by rfl) (by rfl) (by kernel_rfl) (fun K hK => ?_) (fun K hK => ?_)
      · skip
        gi_wp2_with fail
        have HR3 := Lib.hid (HR2.out.alloc (.cells #[] 38))
        have HK3 := Lib.hid (HR2.out.keepAlloc HK2.out (.cells #[] 38))
        have HC3 := Lib.hid ((Below.heap_alloc w' (.cells #[] 38) b HR2.out.bl).trans HC2.out)
        have HROW := Lib.hid (show Row (fun g => w'.heap.size ≤ g) 38 2 _ 0 (Tk.cellsW []) _ from (row_none w' 38 2).mono fun g hg => by exact hg)
        have HSZ3 : w'.heap.size ≤ (w'.alloc (.cells #[] 38)).heap.size := by simp
        obtain ⟨W3, hW3⟩ : ∃ W, w'.alloc (.cells #[] 38) = W := ⟨_, rfl⟩
        rw [hW3] at HR3 HK3 HC3 HROW HSZ3
        refine hK _ _ (fun _ => by rw [hW3]; exact ⟨cells_of HC3.out 3 _ rfl, cells_of HC3.out 7 _ rfl⟩) ?_
        have hgt3 : w'.heap.size < W3.heap.size := by rw [← hW3]; simp
        clear hK K
        rw [hW3]
        refine twoH 7 14 (by rfl) (by rfl) (by kernel_rfl) (fun K hK => ?_) (fun K hK => ?_)
        · skip
          gi_wp2_with (gi_at_builtin; refine append_wd (fun g => w'.heap.size ≤ g) (fun g => (Value.slice o words.length cap).ownBlock = some g) rfl _ _ 33 rfl 38 i0 Try.underlying33 HI.out HZ0.out HZ1.out HZ2.out _ 0 [] (by rfl) HROW.out _ words (by rfl) (Tk.WdRd.of_row HR3.out.rw) (by omega) HSZ3 ?_; intro v7 W4 hrow7 hgr7)
          simp only [Nat.zero_add, List.nil_append] at hrow7
          obtain ⟨o7, cap7, rfl⟩ := hrow7.form
          have HR4 := Lib.hid (HR2.out.grownFresh HR3.out hgr7 (fun k hk => HROW.out.2 k hk))
          have HC4 := Lib.hid ((hgr7.block b HR3.out.bl (fun e => by have := HROW.out.2 b e.symm; have := HR2.out.bl; omega)).trans HC3.out)
          have HK4 := Lib.hid (HK3.out.grown hgr7 (HROW.out.keepsOthers hgr7) HR3.out.zl (fun k hk hz => by have := HROW.out.2 k hk; have := HR2.out.zl k hz; omega))
          have HSZ4 : w'.heap.size ≤ W4.heap.size := by have := HSZ3; have := hgr7.size; omega
          replace HROW := Lib.hid hrow7
          refine hK _ _ (fun _ => ⟨cells_of HC4.out 3 _ rfl, cells_of HC4.out 7 _ rfl⟩) ?_
          clear hK K hrow7 hgr7
          refine oneH 14 (by rfl) (by kernel_rfl) (fun K hK => ?_)
          gi_wp2_with fail
          have HR5 := Lib.hid (HR4.out.alloc (.cells #[S wd, .bool q] 38))
          have HK5 := Lib.hid (HR4.out.keepAlloc HK4.out (.cells #[S wd, .bool q] 38))
          have HC5 := Lib.hid ((Below.heap_alloc W4 (.cells #[S wd, .bool q] 38) b HR4.out.bl).trans HC4.out)
          have HL := Lib.hid (World.alloc_heap_new W4 (.cells #[S wd, .bool q] 38))
          replace HROW := Lib.hid (HROW.out.alloc (.cells #[S wd, .bool q] 38))
          have HSZ5 : w'.heap.size ≤ (W4.alloc (.cells #[S wd, .bool q] 38)).heap.size := by have := HSZ4; simp; omega
          obtain ⟨W5, hW5⟩ : ∃ W, W4.alloc (.cells #[S wd, .bool q] 38) = W := ⟨_, rfl⟩
          rw [hW5] at HR5 HK5 HC5 HL HSZ5 HROW
          refine hK _ _ (fun _ => by rw [hW5]; exact ⟨cells_of HC5.out 3 _ rfl, cells_of HC5.out 7 _ rfl⟩) ?_
          clear hK K
          rw [hW5]
          refine oneH 15 (by rfl) (by kernel_rfl) (fun K hK => ?_)
          gi_wp2_with (gi_at_builtin; refine append_in (fun g => w'.heap.size ≤ g) rfl _ _ 33 rfl 38 i0 (.agg #[.string ⟨#[]⟩, .bool false]) 2 24 Try.underlying33 HI.out HZ0.out HZ1.out HZ2.out rfl (by decide) _ words.length (Tk.cellsW words) (by rfl) HROW.out ⟨W4.heap.size, 0, none⟩ 1 1 [S wd, .bool q] (by rfl) (by rfl) (fun j u hj => by match j, hj with | 0, hj => cases hj; exact cells_of HL.out 0 _ rfl | 1, hj => cases hj; exact cells_of HL.out 1 _ rfl | j + 2, hj => simp at hj) (by intro u hu; simp at hu; rcases hu with rfl | rfl <;> rfl) (by unfold maxLen; omega) (by omega) HSZ5 ?_; intro v15 w15 hrow15 hgr15 _)
          obtain ⟨o15, cap15, rfl⟩ := hrow15.form
          have HR15 := Lib.hid ((HR2.out.grownFresh HR5.out hgr15 (fun k hk => HROW.out.2 k hk)).newW HR2.out (ws := words ++ [(wd, q)]) (by rw [Tk.cellsW_snoc]; simpa using hrow15))
          have HC15 := Lib.hid ((hgr15.block b HR5.out.bl (fun e => by have := HROW.out.2 b e.symm; have := HR2.out.bl; omega)).trans HC5.out)
          have HK15 := Lib.hid (HK5.out.grown hgr15 (HROW.out.keepsOthers hgr15) HR5.out.zl (fun k hk hz => by have := HROW.out.2 k hk; have := HR2.out.zl k hz; omega))
          have c3' := cells_of HC15.out 3 _ rfl
          have c7' := cells_of HC15.out 7 _ rfl
          have c8' := cells_of HC15.out 8 _ rfl
          have hz' := frozen_of HC15.out
          have hb' := HR15.out.bl
          refine hK _ _ (fun _ => ⟨c3', c7'⟩) ?_
          clear hK K hrow15 hgr15
          refine takeP 16 (v := ?qbxv16) (fun _ => trivial) (by rfl) (by kernel_rfl) (.inl ⟨by kernel_rfl, fun w1 _ => ?qbxy16⟩) ?_
          case qbxy16 => (go_simp; try first | rfl | (rw [if_pos (by omega)]) | (rw [if_neg (by omega)]) | (rw [if_neg (by simp; omega)]) | (split <;> first | (exfalso; omega) | rfl))
          refine takeP 17 (v := ?qbxv17) (fun _ => trivial) (by rfl) (by kernel_rfl) (.inl ⟨by kernel_rfl, fun w1 _ => ?qbxy17⟩) ?_
          case qbxy17 => (go_simp; try first | rfl | (rw [if_pos (by omega)]) | (rw [if_neg (by omega)]) | (rw [if_neg (by simp; omega)]) | (split <;> first | (exfalso; omega) | rfl))
          refine takeP 18 (v := ?qbxv18) (fun _ => trivial) (by rfl) (by kernel_rfl) (.inl ⟨by kernel_rfl, fun w1 _ => ?qbxy18⟩) ?_
          case qbxy18 => (go_simp; try first | rfl | (rw [if_pos (by omega)]) | (rw [if_neg (by omega)]) | (rw [if_neg (by simp; omega)]) | (split <;> first | (exfalso; omega) | rfl))
          refine oneH 19 (by rfl) (by kernel_rfl) (fun K hK => ?_)
          gi_wp2_with fail
          refine hK _ _ (fun h => absurd h (by decide)) ?_
          clear hK K
          refine doneH (by kernel_rfl) ?_
          gi_wp2_with fail
          go_end0
          refine ⟨rfl, ?_, ((HK15.out.setCell HR15.out.bz _).setCell HR15.out.bz _).setCell HR15.out.bz _⟩
          unfold Tk.Lx.flush
          rw [if_neg (by simp)]
          exact ⟨Fz, vo, .slice o15 (words.length + 1) cap15, us, block_set (block_set (block_set HC15.out 3 _) 7 (S [])) 8 (.bool false), (((HR15.out.set 3 _).set 7 _).set 8 _).line _ _⟩
        · skip
          gi_wp2_with fail
          have HR4 := Lib.hid (HR3.out.alloc (.cells #[S wd, .bool q] 38))
          have HK4 := Lib.hid (HR3.out.keepAlloc HK3.out (.cells #[S wd, .bool q] 38))
          have HC4 := Lib.hid ((Below.heap_alloc W3 (.cells #[S wd, .bool q] 38) b HR3.out.bl).trans HC3.out)
          have HL := Lib.hid (World.alloc_heap_new W3 (.cells #[S wd, .bool q] 38))
          replace HROW := Lib.hid (HROW.out.alloc (.cells #[S wd, .bool q] 38))
          have HSZ4 : w'.heap.size ≤ (W3.alloc (.cells #[S wd, .bool q] 38)).heap.size := by have := HSZ3; simp; omega
          obtain ⟨W4, hW4⟩ : ∃ W, W3.alloc (.cells #[S wd, .bool q] 38) = W := ⟨_, rfl⟩
          rw [hW4] at HR4 HK4 HC4 HL HSZ4 HROW
          refine hK _ _ (fun _ => by rw [hW4]; exact ⟨cells_of HC4.out 3 _ rfl, cells_of HC4.out 7 _ rfl⟩) ?_
          clear hK K
          rw [hW4]
          refine oneH 7 (by rfl) (by kernel_rfl) (fun K hK => ?_)
          gi_wp2_with (gi_at_builtin; refine append_wd (fun g => w'.heap.size ≤ g) (fun g => (Value.slice o words.length cap).ownBlock = some g) rfl _ _ 33 rfl 38 i0 Try.underlying33 HI.out HZ0.out HZ1.out HZ2.out _ 0 [] (by rfl) HROW.out _ words (by rfl) (Tk.WdRd.of_row HR4.out.rw) (by omega) HSZ4 ?_; intro v7 W5 hrow7 hgr7)
          simp only [Nat.zero_add, List.nil_append] at hrow7
          obtain ⟨o7, cap7, rfl⟩ := hrow7.form
          have HR5 := Lib.hid (HR2.out.grownFresh HR4.out hgr7 (fun k hk => HROW.out.2 k hk))
          have HC5 := Lib.hid ((hgr7.block b HR4.out.bl (fun e => by have := HROW.out.2 b e.symm; have := HR2.out.bl; omega)).trans HC4.out)
          have HK5 := Lib.hid (HK4.out.grown hgr7 (HROW.out.keepsOthers hgr7) HR4.out.zl (fun k hk hz => by have := HROW.out.2 k hk; have := HR2.out.zl k hz; omega))
          have HSZ5 : w'.heap.size ≤ W5.heap.size := by have := HSZ4; have := hgr7.size; omega
          replace HL := Lib.hid ((hgr7.block _ (Array.getElem?_eq_some_iff.1 HL.out).1 (fun e => by simp [Value.ownBlock] at e; omega)).trans HL.out)
          replace HROW := Lib.hid hrow7
          refine hK _ _ (fun _ => ⟨cells_of HC5.out 3 _ rfl, cells_of HC5.out 7 _ rfl⟩) ?_
          clear hK K hrow7 hgr7
          refine oneH 15 (by rfl) (by kernel_rfl) (fun K hK => ?_)
          gi_wp2_with (gi_at_builtin; refine append_in (fun g => w'.heap.size ≤ g) rfl _ _ 33 rfl 38 i0 (.agg #[.string ⟨#[]⟩, .bool false]) 2 24 Try.underlying33 HI.out HZ0.out HZ1.out HZ2.out rfl (by decide) _ words.length (Tk.cellsW words) (by rfl) HROW.out ⟨W3.heap.size, 0, none⟩ 1 1 [S wd, .bool q] (by rfl) (by rfl) (fun j u hj => by match j, hj with | 0, hj => cases hj; exact cells_of HL.out 0 _ rfl | 1, hj => cases hj; exact cells_of HL.out 1 _ rfl | j + 2, hj => simp at hj) (by intro u hu; simp at hu; rcases hu with rfl | rfl <;> rfl) (by unfold maxLen; omega) (by omega) HSZ5 ?_; intro v15 w15 hrow15 hgr15 _)
          obtain ⟨o15, cap15, rfl⟩ := hrow15.form
          have HR15 := Lib.hid ((HR2.out.grownFresh HR5.out hgr15 (fun k hk => HROW.out.2 k hk)).newW HR2.out (ws := words ++ [(wd, q)]) (by rw [Tk.cellsW_snoc]; simpa using hrow15))
          have HC15 := Lib.hid ((hgr15.block b HR5.out.bl (fun e => by have := HROW.out.2 b e.symm; have := HR2.out.bl; omega)).trans HC5.out)
          have HK15 := Lib.hid (HK5.out.grown hgr15 (HROW.out.keepsOthers hgr15) HR5.out.zl (fun k hk hz => by have := HROW.out.2 k hk; have := HR2.out.zl k hz; omega))
          have c3' := cells_of HC15.out 3 _ rfl
          have c7' := cells_of HC15.out 7 _ rfl
          have c8' := cells_of HC15.out 8 _ rfl
          have hz' := frozen_of HC15.out
          have hb' := HR15.out.bl
          refine hK _ _ (fun _ => ⟨c3', c7'⟩) ?_
          clear hK K hrow15 hgr15
          refine takeP 16 (v := ?qbyv16) (fun _ => trivial) (by rfl) (by kernel_rfl) (.inl ⟨by kernel_rfl, fun w1 _ => ?qbyy16⟩) ?_
          case qbyy16 => (go_simp; try first | rfl | (rw [if_pos (by omega)]) | (rw [if_neg (by omega)]) | (rw [if_neg (by simp; omega)]) | (split <;> first | (exfalso; omega) | rfl))
          refine takeP 17 (v := ?qbyv17) (fun _ => trivial) (by rfl) (by kernel_rfl) (.inl ⟨by kernel_rfl, fun w1 _ => ?qbyy17⟩) ?_
          case qbyy17 => (go_simp; try first | rfl | (rw [if_pos (by omega)]) | (rw [if_neg (by omega)]) | (rw [if_neg (by simp; omega)]) | (split <;> first | (exfalso; omega) | rfl))
          refine takeP 18 (v := ?qbyv18) (fun _ => trivial) (by rfl) (by kernel_rfl) (.inl ⟨by kernel_rfl, fun w1 _ => ?qbyy18⟩) ?_
          case qbyy18 => (go_simp; try first | rfl | (rw [if_pos (by omega)]) | (rw [if_neg (by omega)]) | (rw [if_neg (by simp; omega)]) | (split <;> first | (exfalso; omega) | rfl))
          refine oneH 19 (by rfl) (by kernel_rfl) (fun K hK => ?_)
          gi_wp2_with fail
          refine hK _ _ (fun h => absurd h (by decide)) ?_
          clear hK K
          refine doneH (by kernel_rfl) ?_
          gi_wp2_with fail
          go_end0
          refine ⟨rfl, ?_, ((HK15.out.setCell HR15.out.bz _).setCell HR15.out.bz _).setCell HR15.out.bz _⟩
          unfold Tk.Lx.flush
          rw [if_neg (by simp)]
          exact ⟨Fz, vo, .slice o15 (words.length + 1) cap15, us, block_set (block_set (block_set HC15.out 3 _) 7 (S [])) 8 (.bool false), (((HR15.out.set 3 _).set 7 _).set 8 _).line _ _⟩
      · skip
        gi_wp2_with fail
        have HR3 := Lib.hid (HR2.out.alloc (.cells #[S wd, .bool q] 38))
        have HK3 := Lib.hid (HR2.out.keepAlloc HK2.out (.cells #[S wd, .bool q] 38))
        have HC3 := Lib.hid ((Below.heap_alloc w' (.cells #[S wd, .bool q] 38) b HR2.out.bl).trans HC2.out)
        have HL := Lib.hid (World.alloc_heap_new w' (.cells #[S wd, .bool q] 38))
        have HSZ3 : w'.heap.size ≤ (w'.alloc (.cells #[S wd, .bool q] 38)).heap.size := by simp
        obtain ⟨W3, hW3⟩ : ∃ W, w'.alloc (.cells #[S wd, .bool q] 38) = W := ⟨_, rfl⟩
        rw [hW3] at HR3 HK3 HC3 HL HSZ3
        refine hK _ _ (fun _ => by rw [hW3]; exact ⟨cells_of HC3.out 3 _ rfl, cells_of HC3.out 7 _ rfl⟩) ?_
        clear hK K
        rw [hW3]
        refine oneH 1 (by rfl) (by kernel_rfl) (fun K hK => ?_)
        gi_wp2_with fail
        have HR4 := Lib.hid (HR3.out.alloc (.cells #[] 38))
        have HK4 := Lib.hid (HR3.out.keepAlloc HK3.out (.cells #[] 38))
        have HC4 := Lib.hid ((Below.heap_alloc W3 (.cells #[] 38) b HR3.out.bl).trans HC3.out)
        have HROW := Lib.hid (show Row (fun g => w'.heap.size ≤ g) 38 2 _ 0 (Tk.cellsW []) _ from (row_none W3 38 2).mono fun g hg => by have := HSZ3; omega)
        replace HL := Lib.hid ((Below.heap_alloc W3 (.cells #[] 38) _ (Array.getElem?_eq_some_iff.1 HL.out).1).trans HL.out)
        have HLR : w'.heap.size < W3.heap.size := by have := (Array.getElem?_eq_some_iff.1 HL.out).1; rw [← hW3]; simp
        have HSZ4 : w'.heap.size ≤ (W3.alloc (.cells #[] 38)).heap.size := by have := HSZ3; simp; omega
        obtain ⟨W4, hW4⟩ : ∃ W, W3.alloc (.cells #[] 38) = W := ⟨_, rfl⟩
        rw [hW4] at HR4 HK4 HC4 HROW HSZ4 HL
        refine hK _ _ (fun _ => by rw [hW4]; exact ⟨cells_of HC4.out 3 _ rfl, cells_of HC4.out 7 _ rfl⟩) ?_
        clear hK K
        rw [hW4]
        refine oneH 7 (by rfl) (by kernel_rfl) (fun K hK => ?_)
        gi_wp2_with (gi_at_builtin; refine append_wd (fun g => w'.heap.size ≤ g) (fun g => (Value.slice o words.length cap).ownBlock = some g) rfl _ _ 33 rfl 38 i0 Try.underlying33 HI.out HZ0.out HZ1.out HZ2.out _ 0 [] (by rfl) HROW.out _ words (by rfl) (Tk.WdRd.of_row HR4.out.rw) (by omega) HSZ4 ?_; intro v7 W5 hrow7 hgr7)
        simp only [Nat.zero_add, List.nil_append] at hrow7
        obtain ⟨o7, cap7, rfl⟩ := hrow7.form
        have HR5 := Lib.hid (HR2.out.grownFresh HR4.out hgr7 (fun k hk => HROW.out.2 k hk))
        have HC5 := Lib.hid ((hgr7.block b HR4.out.bl (fun e => by have := HROW.out.2 b e.symm; have := HR2.out.bl; omega)).trans HC4.out)
        have HK5 := Lib.hid (HK4.out.grown hgr7 (HROW.out.keepsOthers hgr7) HR4.out.zl (fun k hk hz => by have := HROW.out.2 k hk; have := HR2.out.zl k hz; omega))
        have HSZ5 : w'.heap.size ≤ W5.heap.size := by have := HSZ4; have := hgr7.size; omega
        replace HL := Lib.hid ((hgr7.block _ (Array.getElem?_eq_some_iff.1 HL.out).1 (fun e => by simp [Value.ownBlock] at e; omega)).trans HL.out)
        replace HROW := Lib.hid hrow7
        refine hK _ _ (fun _ => ⟨cells_of HC5.out 3 _ rfl, cells_of HC5.out 7 _ rfl⟩) ?_
        clear hK K hrow7 hgr7
        refine oneH 15 (by rfl) (by kernel_rfl) (fun K hK => ?_)
        gi_wp2_with (gi_at_builtin; refine append_in (fun g => w'.heap.size ≤ g) rfl _ _ 33 rfl 38 i0 (.agg #[.string ⟨#[]⟩, .bool false]) 2 24 Try.underlying33 HI.out HZ0.out HZ1.out HZ2.out rfl (by decide) _ words.length (Tk.cellsW words) (by rfl) HROW.out ⟨w'.heap.size, 0, none⟩ 1 1 [S wd, .bool q] (by rfl) (by rfl) (fun j u hj => by match j, hj with | 0, hj => cases hj; exact cells_of HL.out 0 _ rfl | 1, hj => cases hj; exact cells_of HL.out 1 _ rfl | j + 2, hj => simp at hj) (by intro u hu; simp at hu; rcases hu with rfl | rfl <;> rfl) (by unfold maxLen; omega) (by omega) HSZ5 ?_; intro v15 w15 hrow15 hgr15 _)
        obtain ⟨o15, cap15, rfl⟩ := hrow15.form
        have HR15 := Lib.hid ((HR2.out.grownFresh HR5.out hgr15 (fun k hk => HROW.out.2 k hk)).newW HR2.out (ws := words ++ [(wd, q)]) (by rw [Tk.cellsW_snoc]; simpa using hrow15))
        have HC15 := Lib.hid ((hgr15.block b HR5.out.bl (fun e => by have := HROW.out.2 b e.symm; have := HR2.out.bl; omega)).trans HC5.out)
        have HK15 := Lib.hid (HK5.out.grown hgr15 (HROW.out.keepsOthers hgr15) HR5.out.zl (fun k hk hz => by have := HROW.out.2 k hk; have := HR2.out.zl k hz; omega))
        have c3' := cells_of HC15.out 3 _ rfl
        have c7' := cells_of HC15.out 7 _ rfl
        have c8' := cells_of HC15.out 8 _ rfl
        have hz' := frozen_of HC15.out
        have hb' := HR15.out.bl
        refine hK _ _ (fun _ => ⟨c3', c7'⟩) ?_
        clear hK K hrow15 hgr15
        refine takeP 16 (v := ?qbzv16) (fun _ => trivial) (by rfl) (by kernel_rfl) (.inl ⟨by kernel_rfl, fun w1 _ => ?qbzy16⟩) ?_
        case qbzy16 => (go_simp; try first | rfl | (rw [if_pos (by omega)]) | (rw [if_neg (by omega)]) | (rw [if_neg (by simp; omega)]) | (split <;> first | (exfalso; omega) | rfl))
        refine takeP 17 (v := ?qbzv17) (fun _ => trivial) (by rfl) (by kernel_rfl) (.inl ⟨by kernel_rfl, fun w1 _ => ?qbzy17⟩) ?_
        case qbzy17 => (go_simp; try first | rfl | (rw [if_pos (by omega)]) | (rw [if_neg (by omega)]) | (rw [if_neg (by simp; omega)]) | (split <;> first | (exfalso; omega) | rfl))
        refine takeP 18 (v := ?qbzv18) (fun _ => trivial) (by rfl) (by kernel_rfl) (.inl ⟨by kernel_rfl, fun w1 _ => ?qbzy18⟩) ?_
        case qbzy18 => (go_simp; try first | rfl | (rw [if_pos (by omega)]) | (rw [if_neg (by omega)]) | (rw [if_neg (by simp; omega)]) | (split <;> first | (exfalso; omega) | rfl))
        refine oneH 19 (by rfl) (by kernel_rfl) (fun K hK => ?_)
        gi_wp2_with fail
        refine hK _ _ (fun h => absurd h (by decide)) ?_
        clear hK K
        refine doneH (by kernel_rfl) ?_
        gi_wp2_with fail
        go_end0
        refine ⟨rfl, ?_, ((HK15.out.setCell HR15.out.bz _).setCell HR15.out.bz _).setCell HR15.out.bz _⟩
        unfold Tk.Lx.flush
        rw [if_neg (by simp)]
        exact ⟨Fz, vo, .slice o15 (words.length + 1) cap15, us, block_set (block_set (block_set HC15.out 3 _) 7 (S [])) 8 (.bool false), (((HR15.out.set 3 _).set 7 _).set 8 _).line _ _⟩
  · rcases hkk with hk | hk
    · skip
      have HK := Lib.hid hk
      have hk0 : ((words.length : Int) == 0) = true := by rw [hk]; rfl
      have hk2 : (words.length : Int) ≤ 1000000 := by omega
      clear hk
      refine (callsIn_wide (n := 0)).1 ?_
      refine callsIn_of_wp Try.func56 rfl trivial ?_ rfl
      simp only [Try.ntmps56, List.size_toArray, List.length_cons, List.length_nil, Nat.reduceAdd, Nat.reduceSub, Array.replicate_succ, Array.replicate_zero, List.push_toArray, List.append_toArray, List.nil_append, List.cons_append]
      gi_wp2_with fail
      obtain ⟨W1, hW1, HC1, HR1, HK1⟩ : ∃ W1, w.setCell ⟨b, 1, none⟩ (.int .i64 n) = W1 ∧ Hid (W1.heap[b]? = some (.cells #[vo, .int .i64 ((if words = [] then n else line : Nat) : Int), .bool blank, .slice o words.length cap, .bool on, .int .i64 opn, .int .i64 first, S wd, .bool false] 73 (0, 0))) ∧
          Hid (Tk.Rest 35 38 Z b Fz vo (.slice o words.length cap) (.slice none 0 0) us ⟨out, line, blank, words, []⟩ W1) ∧ Hid (Keep Z w W1) :=
        ⟨_, rfl, Lib.hid (by rw [if_pos HK.out]; exact block_set HC.out 1 _), Lib.hid (HR.out.set 1 _), Lib.hid ((Keep.refl _ _).setCell HR.out.bz _)⟩
      rw [hW1]
      clear hW1
      refine drawnH [1, 6, 7, 11, 13, 14, 15] (fun w' => w'.cell? ⟨b, 3, none⟩ = some (.slice o words.length cap) ∧ w'.cell? ⟨b, 7, none⟩ = some (S wd)) 20 rfl (by kernel_rfl) ?_
      intro w' hw'
      obtain ⟨HC2, HR2, HK2⟩ : Hid (w'.heap[b]? = _) ∧ Hid (Tk.Rest _ _ _ _ _ _ _ _ _ _ w') ∧ Hid (Keep Z w w') := by
        subst hw'; exact ⟨HC1, Lib.hid HR1.out.drew, Lib.hid HK1.out.drew⟩
      clear hw' HC1 HR1 HK1
      have hS : w'.cell? ⟨b, 3, none⟩ = some (.slice o words.length cap) ∧ w'.cell? ⟨b, 7, none⟩ = some (S wd) := ⟨cells_of HC2.out 3 _ rfl, cells_of HC2.out 7 _ rfl⟩
      have HWR := Lib.hid (Tk.WdRd.of_row HR2.out.rw)
      refine takeP 0 (v := ?qcv0) (fun _ => trivial) (by rfl) (by kernel_rfl) (.inl ⟨by kernel_rfl, fun w1 _ => ?qcy0⟩) ?_
      case qcy0 => (go_simp; try first | rfl | (rw [if_pos (by omega)]) | (rw [if_neg (by omega)]) | (rw [if_neg (by simp; omega)]) | (split <;> first | (exfalso; omega) | rfl))
      refine takeP 2 (v := ?qcv2) (fun _ => trivial) (by rfl) (by kernel_rfl) (.inl ⟨by kernel_rfl, fun w1 _ => ?qcy2⟩) ?_
      case qcy2 => (go_simp; try first | rfl | (rw [if_pos (by omega)]) | (rw [if_neg (by omega)]) | (rw [if_neg (by simp; omega)]) | (split <;> first | (exfalso; omega) | rfl))
      refine takeP 3 (v := ?qcv3) (fun _ => trivial) (by rfl) (by kernel_rfl) (.inl ⟨by kernel_rfl, fun w1 _ => ?qcy3⟩) ?_
      case qcy3 => (go_simp; try first | rfl | (rw [if_pos (by omega)]) | (rw [if_neg (by omega)]) | (rw [if_neg (by simp; omega)]) | (split <;> first | (exfalso; omega) | rfl))
      refine takeP 4 (v := ?qcv4) (fun _ => trivial) (by rfl) (by kernel_rfl) (.inl ⟨by kernel_rfl, fun w1 _ => ?qcy4⟩) ?_
      case qcy4 => (go_simp; try first | rfl | (rw [if_pos (by omega)]) | (rw [if_neg (by omega)]) | (rw [if_neg (by simp; omega)]) | (split <;> first | (exfalso; omega) | rfl))
      refine takeP 5 (v := ?qcv5) (fun _ => trivial) (by rfl) (by kernel_rfl) (.inl ⟨by kernel_rfl, fun w1 _ => ?qcy5⟩) ?_
      case qcy5 => (go_simp; try first | rfl | (rw [if_pos (by omega)]) | (rw [if_neg (by omega)]) | (rw [if_neg (by simp; omega)]) | (split <;> first | (exfalso; omega) | rfl))
      refine takeP 8 (v := ?qcv8) (fun _ => trivial) (by rfl) (by kernel_rfl) (.inl ⟨by kernel_rfl, fun w1 _ => ?qcy8⟩) ?_
      case qcy8 => (go_simp; try first | rfl | (rw [if_pos (by omega)]) | (rw [if_neg (by omega)]) | (rw [if_neg (by simp; omega)]) | (split <;> first | (exfalso; omega) | rfl))
      refine takeP 9 (v := ?qcv9) (fun _ => trivial) (by rfl) (by kernel_rfl) (.inl ⟨by kernel_rfl, fun w1 _ => ?qcy9⟩) ?_
      case qcy9 => (go_simp; try first | rfl | (rw [if_pos (by omega)]) | (rw [if_neg (by omega)]) | (rw [if_neg (by simp; omega)]) | (split <;> first | (exfalso; omega) | rfl))
      refine takeP 10 (v := ?qcv10) (fun _ => trivial) (by rfl) (by kernel_rfl) (.inl ⟨by kernel_rfl, fun w1 _ => ?qcy10⟩) ?_
      case qcy10 => (go_simp; try first | rfl | (rw [if_pos (by omega)]) | (rw [if_neg (by omega)]) | (rw [if_neg (by simp; omega)]) | (split <;> first | (exfalso; omega) | rfl))
      refine takeP 12 (v := ?qcv12) (fun _ => trivial) (by rfl) (by kernel_rfl) (.inl ⟨by kernel_rfl, fun w1 _ => ?qcy12⟩) ?_
      case qcy12 => (go_simp; try first | rfl | (rw [if_pos (by omega)]) | (rw [if_neg (by omega)]) | (rw [if_neg (by simp; omega)]) | (split <;> first | (exfalso; omega) | rfl))
      refine takeH 6 (v := ?qcv6) (fun _ => trivial) (by rfl) (by kernel_rfl) hS (.inl ⟨by kernel_rfl, fun w1 ⟨a1, a2⟩ => ?qcy6⟩) ?_
      case qcy6 => (go_simp; try first | rfl | (rw [if_pos (by omega)]) | (rw [if_neg (by omega)]) | (rw [if_neg (by simp; omega)]) | (split <;> first | (exfalso; omega) | rfl))
      refine takeH 11 (v := ?qcv11) (fun _ => trivial) (by rfl) (by kernel_rfl) hS (.inl ⟨by kernel_rfl, fun w1 ⟨a1, a2⟩ => ?qcy11⟩) ?_
      case qcy11 => (go_simp; try first | rfl | (rw [if_pos (by omega)]) | (rw [if_neg (by omega)]) | (rw [if_neg (by simp; omega)]) | (split <;> first | (exfalso; omega) | rfl))
      refine takeH 13 (v := ?qcv13) (fun _ => trivial) (by rfl) (by kernel_rfl) hS (.inl ⟨by kernel_rfl, fun w1 ⟨a1, a2⟩ => ?qcy13⟩) ?_
      case qcy13 => (go_simp; try first | rfl | (rw [if_pos (by omega)]) | (rw [if_neg (by omega)]) | (rw [if_neg (by simp; omega)]) | (split <;> first | (exfalso; omega) | rfl))
      refine twoH 1 14 (by rfl) (by rfl) (by kernel_rfl) (fun K hK => ?_) (fun K hK => ?_)
      · skip
        gi_wp2_with fail
        have HR3 := Lib.hid (HR2.out.alloc (.cells #[] 38))
        have HK3 := Lib.hid (HR2.out.keepAlloc HK2.out (.cells #[] 38))
        have HC3 := Lib.hid ((Below.heap_alloc w' (.cells #[] 38) b HR2.out.bl).trans HC2.out)
        have HROW := Lib.hid (show Row (fun g => w'.heap.size ≤ g) 38 2 _ 0 (Tk.cellsW []) _ from (row_none w' 38 2).mono fun g hg => by exact hg)
        have HSZ3 : w'.heap.size ≤ (w'.alloc (.cells #[] 38)).heap.size := by simp
        obtain ⟨W3, hW3⟩ : ∃ W, w'.alloc (.cells #[] 38) = W := ⟨_, rfl⟩
        rw [hW3] at HR3 HK3 HC3 HROW HSZ3
        refine hK _ _ (fun _ => by rw [hW3]; exact ⟨cells_of HC3.out 3 _ rfl, cells_of HC3.out 7 _ rfl⟩) ?_
        have hgt3 : w'.heap.size < W3.heap.size := by rw [← hW3]; simp
        clear hK K
        rw [hW3]
        refine twoH 7 14 (by rfl) (by rfl) (by kernel_rfl) (fun K hK => ?_) (fun K hK => ?_)
        · skip
          gi_wp2_with (gi_at_builtin; refine append_wd (fun g => w'.heap.size ≤ g) (fun g => (Value.slice o words.length cap).ownBlock = some g) rfl _ _ 33 rfl 38 i0 Try.underlying33 HI.out HZ0.out HZ1.out HZ2.out _ 0 [] (by rfl) HROW.out _ words (by rfl) (Tk.WdRd.of_row HR3.out.rw) (by omega) HSZ3 ?_; intro v7 W4 hrow7 hgr7)
          simp only [Nat.zero_add, List.nil_append] at hrow7
          obtain ⟨o7, cap7, rfl⟩ := hrow7.form
          have HR4 := Lib.hid (HR2.out.grownFresh HR3.out hgr7 (fun k hk => HROW.out.2 k hk))
          have HC4 := Lib.hid ((hgr7.block b HR3.out.bl (fun e => by have := HROW.out.2 b e.symm; have := HR2.out.bl; omega)).trans HC3.out)
          have HK4 := Lib.hid (HK3.out.grown hgr7 (HROW.out.keepsOthers hgr7) HR3.out.zl (fun k hk hz => by have := HROW.out.2 k hk; have := HR2.out.zl k hz; omega))
          have HSZ4 : w'.heap.size ≤ W4.heap.size := by have := HSZ3; have := hgr7.size; omega
          replace HROW := Lib.hid hrow7
          refine hK _ _ (fun _ => ⟨cells_of HC4.out 3 _ rfl, cells_of HC4.out 7 _ rfl⟩) ?_
          clear hK K hrow7 hgr7
          refine oneH 14 (by rfl) (by kernel_rfl) (fun K hK => ?_)
          gi_wp2_with fail
          have HR5 := Lib.hid (HR4.out.alloc (.cells #[S wd, .bool true] 38))
          have HK5 := Lib.hid (HR4.out.keepAlloc HK4.out (.cells #[S wd, .bool true] 38))
          have HC5 := Lib.hid ((Below.heap_alloc W4 (.cells #[S wd, .bool true] 38) b HR4.out.bl).trans HC4.out)
          have HL := Lib.hid (World.alloc_heap_new W4 (.cells #[S wd, .bool true] 38))
          replace HROW := Lib.hid (HROW.out.alloc (.cells #[S wd, .bool true] 38))
          have HSZ5 : w'.heap.size ≤ (W4.alloc (.cells #[S wd, .bool true] 38)).heap.size := by have := HSZ4; simp; omega
          obtain ⟨W5, hW5⟩ : ∃ W, W4.alloc (.cells #[S wd, .bool true] 38) = W := ⟨_, rfl⟩
          rw [hW5] at HR5 HK5 HC5 HL HSZ5 HROW
          refine hK _ _ (fun _ => by rw [hW5]; exact ⟨cells_of HC5.out 3 _ rfl, cells_of HC5.out 7 _ rfl⟩) ?_
          clear hK K
          rw [hW5]
          refine oneH 15 (by rfl) (by kernel_rfl) (fun K hK => ?_)
          gi_wp2_with (gi_at_builtin; refine append_in (fun g => w'.heap.size ≤ g) rfl _ _ 33 rfl 38 i0 (.agg #[.string ⟨#[]⟩, .bool false]) 2 24 Try.underlying33 HI.out HZ0.out HZ1.out HZ2.out rfl (by decide) _ words.length (Tk.cellsW words) (by rfl) HROW.out ⟨W4.heap.size, 0, none⟩ 1 1 [S wd, .bool true] (by rfl) (by rfl) (fun j u hj => by match j, hj with | 0, hj => cases hj; exact cells_of HL.out 0 _ rfl | 1, hj => cases hj; exact cells_of HL.out 1 _ rfl | j + 2, hj => simp at hj) (by intro u hu; simp at hu; rcases hu with rfl | rfl <;> rfl) (by unfold maxLen; omega) (by omega) HSZ5 ?_; intro v15 w15 hrow15 hgr15 _)
          obtain ⟨o15, cap15, rfl⟩ := hrow15.form
          have HR15 := Lib.hid ((HR2.out.grownFresh HR5.out hgr15 (fun k hk => HROW.out.2 k hk)).newW HR2.out (ws := words ++ [(wd, true)]) (by rw [Tk.cellsW_snoc]; simpa using hrow15))
          have HC15 := Lib.hid ((hgr15.block b HR5.out.bl (fun e => by have := HROW.out.2 b e.symm; have := HR2.out.bl; omega)).trans HC5.out)
          have HK15 := Lib.hid (HK5.out.grown hgr15 (HROW.out.keepsOthers hgr15) HR5.out.zl (fun k hk hz => by have := HROW.out.2 k hk; have := HR2.out.zl k hz; omega))
          have c3' := cells_of HC15.out 3 _ rfl
          have c7' := cells_of HC15.out 7 _ rfl
          have c8' := cells_of HC15.out 8 _ rfl
          have hz' := frozen_of HC15.out
          have hb' := HR15.out.bl
          refine hK _ _ (fun _ => ⟨c3', c7'⟩) ?_
          clear hK K hrow15 hgr15
          refine takeP 16 (v := ?qcxv16) (fun _ => trivial) (by rfl) (by kernel_rfl) (.inl ⟨by kernel_rfl, fun w1 _ => ?qcxy16⟩) ?_
          case qcxy16 => (go_simp; try first | rfl | (rw [if_pos (by omega)]) | (rw [if_neg (by omega)]) | (rw [if_neg (by simp; omega)]) | (split <;> first | (exfalso; omega) | rfl))
          refine takeP 17 (v := ?qcxv17) (fun _ => trivial) (by rfl) (by kernel_rfl) (.inl ⟨by kernel_rfl, fun w1 _ => ?qcxy17⟩) ?_
          case qcxy17 => (go_simp; try first | rfl | (rw [if_pos (by omega)]) | (rw [if_neg (by omega)]) | (rw [if_neg (by simp; omega)]) | (split <;> first | (exfalso; omega) | rfl))
          refine takeP 18 (v := ?qcxv18) (fun _ => trivial) (by rfl) (by kernel_rfl) (.inl ⟨by kernel_rfl, fun w1 _ => ?qcxy18⟩) ?_
          case qcxy18 => (go_simp; try first | rfl | (rw [if_pos (by omega)]) | (rw [if_neg (by omega)]) | (rw [if_neg (by simp; omega)]) | (split <;> first | (exfalso; omega) | rfl))
          refine oneH 19 (by rfl) (by kernel_rfl) (fun K hK => ?_)
          gi_wp2_with fail
          refine hK _ _ (fun h => absurd h (by decide)) ?_
          clear hK K
          refine doneH (by kernel_rfl) ?_
          gi_wp2_with fail
          go_end0
          refine ⟨rfl, ?_, ((HK15.out.setCell HR15.out.bz _).setCell HR15.out.bz _).setCell HR15.out.bz _⟩
          unfold Tk.Lx.flush
          rw [if_neg (by simp)]
          exact ⟨Fz, vo, .slice o15 (words.length + 1) cap15, us, block_set (block_set (block_set HC15.out 3 _) 7 (S [])) 8 (.bool false), (((HR15.out.set 3 _).set 7 _).set 8 _).line _ _⟩
        · skip
          gi_wp2_with fail
          have HR4 := Lib.hid (HR3.out.alloc (.cells #[S wd, .bool true] 38))
          have HK4 := Lib.hid (HR3.out.keepAlloc HK3.out (.cells #[S wd, .bool true] 38))
          have HC4 := Lib.hid ((Below.heap_alloc W3 (.cells #[S wd, .bool true] 38) b HR3.out.bl).trans HC3.out)
          have HL := Lib.hid (World.alloc_heap_new W3 (.cells #[S wd, .bool true] 38))
          replace HROW := Lib.hid (HROW.out.alloc (.cells #[S wd, .bool true] 38))
          have HSZ4 : w'.heap.size ≤ (W3.alloc (.cells #[S wd, .bool true] 38)).heap.size := by have := HSZ3; simp; omega
          obtain ⟨W4, hW4⟩ : ∃ W, W3.alloc (.cells #[S wd, .bool true] 38) = W := ⟨_, rfl⟩
          rw [hW4] at HR4 HK4 HC4 HL HSZ4 HROW
          refine hK _ _ (fun _ => by rw [hW4]; exact ⟨cells_of HC4.out 3 _ rfl, cells_of HC4.out 7 _ rfl⟩) ?_
          clear hK K
          rw [hW4]
          refine oneH 7 (by rfl) (by kernel_rfl) (fun K hK => ?_)
          gi_wp2_with (gi_at_builtin; refine append_wd (fun g => w'.heap.size ≤ g) (fun g => (Value.slice o words.length cap).ownBlock = some g) rfl _ _ 33 rfl 38 i0 Try.underlying33 HI.out HZ0.out HZ1.out HZ2.out _ 0 [] (by rfl) HROW.out _ words (by rfl) (Tk.WdRd.of_row HR4.out.rw) (by omega) HSZ4 ?_; intro v7 W5 hrow7 hgr7)
          simp only [Nat.zero_add, List.nil_append] at hrow7
          obtain ⟨o7, cap7, rfl⟩ := hrow7.form
          have HR5 := Lib.hid (HR2.out.grownFresh HR4.out hgr7 (fun k hk => HROW.out.2 k hk))
          have HC5 := Lib.hid ((hgr7.block b HR4.out.bl (fun e => by have := HROW.out.2 b e.symm; have := HR2.out.bl; omega)).trans HC4.out)
          have HK5 := Lib.hid (HK4.out.grown hgr7 (HROW.out.keepsOthers hgr7) HR4.out.zl (fun k hk hz => by have := HROW.out.2 k hk; have := HR2.out.zl k hz; omega))
          have HSZ5 : w'.heap.size ≤ W5.heap.size := by have := HSZ4; have := hgr7.size; omega
          replace HL := Lib.hid ((hgr7.block _ (Array.getElem?_eq_some_iff.1 HL.out).1 (fun e => by simp [Value.ownBlock] at e; omega)).trans HL.out)
          replace HROW := Lib.hid hrow7
          refine hK _ _ (fun _ => ⟨cells_of HC5.out 3 _ rfl, cells_of HC5.out 7 _ rfl⟩) ?_
          clear hK K hrow7 hgr7
          refine oneH 15 (by rfl) (by kernel_rfl) (fun K hK => ?_)
          gi_wp2_with (gi_at_builtin; refine append_in (fun g => w'.heap.size ≤ g) rfl _ _ 33 rfl 38 i0 (.agg #[.string ⟨#[]⟩, .bool false]) 2 24 Try.underlying33 HI.out HZ0.out HZ1.out HZ2.out rfl (by decide) _ words.length (Tk.cellsW words) (by rfl) HROW.out ⟨W3.heap.size, 0, none⟩ 1 1 [S wd, .bool true] (by rfl) (by rfl) (fun j u hj => by match j, hj with | 0, hj => cases hj; exact cells_of HL.out 0 _ rfl | 1, hj => cases hj; exact cells_of HL.out 1 _ rfl | j + 2, hj => simp at hj) (by intro u hu; simp at hu; rcases hu with rfl | rfl <;> rfl) (by unfold maxLen; omega) (by omega) HSZ5 ?_; intro v15 w15 hrow15 hgr15 _)
          obtain ⟨o15, cap15, rfl⟩ := hrow15.form
          have HR15 := Lib.hid ((HR2.out.grownFresh HR5.out hgr15 (fun k hk => HROW.out.2 k hk)).newW HR2.out (ws := words ++ [(wd, true)]) (by rw [Tk.cellsW_snoc]; simpa using hrow15))
          have HC15 := Lib.hid ((hgr15.block b HR5.out.bl (fun e => by have := HROW.out.2 b e.symm; have := HR2.out.bl; omega)).trans HC5.out)
          have HK15 := Lib.hid (HK5.out.grown hgr15 (HROW.out.keepsOthers hgr15) HR5.out.zl (fun k hk hz => by have := HROW.out.2 k hk; have := HR2.out.zl k hz; omega))
          have c3' := cells_of HC15.out 3 _ rfl
          have c7' := cells_of HC15.out 7 _ rfl
          have c8' := cells_of HC15.out 8 _ rfl
          have hz' := frozen_of HC15.out
          have hb' := HR15.out.bl
          refine hK _ _ (fun _ => ⟨c3', c7'⟩) ?_
          clear hK K hrow15 hgr15
          refine takeP 16 (v := ?qcyv16) (fun _ => trivial) (by rfl) (by kernel_rfl) (.inl ⟨by kernel_rfl, fun w1 _ => ?qcyy16⟩) ?_
          case qcyy16 => (go_simp; try first | rfl | (rw [if_pos (by omega)]) | (rw [if_neg (by omega)]) | (rw [if_neg (by simp; omega)]) | (split <;> first | (exfalso; omega) | rfl))
          refine takeP 17 (v := ?qcyv17) (fun _ => trivial) (by rfl) (by kernel_rfl) (.inl ⟨by kernel_rfl, fun w1 _ => ?qcyy17⟩) ?_
          case qcyy17 => (go_simp; try first | rfl | (rw [if_pos (by omega)]) | (rw [if_neg (by omega)]) | (rw [if_neg (by simp; omega)]) | (split <;> first | (exfalso; omega) | rfl))
          refine takeP 18 (v := ?qcyv18) (fun _ => trivial) (by rfl) (by kernel_rfl) (.inl ⟨by kernel_rfl, fun w1 _ => ?qcyy18⟩) ?_
          case qcyy18 => (go_simp; try first | rfl | (rw [if_pos (by omega)]) | (rw [if_neg (by omega)]) | (rw [if_neg (by simp; omega)]) | (split <;> first | (exfalso; omega) | rfl))
          refine oneH 19 (by rfl) (by kernel_rfl) (fun K hK => ?_)
          gi_wp2_with fail
          refine hK _ _ (fun h => absurd h (by decide)) ?_
          clear hK K
          refine doneH (by kernel_rfl) ?_
          gi_wp2_with fail
          go_end0
          refine ⟨rfl, ?_, ((HK15.out.setCell HR15.out.bz _).setCell HR15.out.bz _).setCell HR15.out.bz _⟩
          unfold Tk.Lx.flush
          rw [if_neg (by simp)]
          exact ⟨Fz, vo, .slice o15 (words.length + 1) cap15, us, block_set (block_set (block_set HC15.out 3 _) 7 (S [])) 8 (.bool false), (((HR15.out.set 3 _).set 7 _).set 8 _).line _ _⟩
      · skip
        gi_wp2_with fail
        have HR3 := Lib.hid (HR2.out.alloc (.cells #[S wd, .bool true] 38))
        have HK3 := Lib.hid (HR2.out.keepAlloc HK2.out (.cells #[S wd, .bool true] 38))
        have HC3 := Lib.hid ((Below.heap_alloc w' (.cells #[S wd, .bool true] 38) b HR2.out.bl).trans HC2.out)
        have HL := Lib.hid (World.alloc_heap_new w' (.cells #[S wd, .bool true] 38))
        have HSZ3 : w'.heap.size ≤ (w'.alloc (.cells #[S wd, .bool true] 38)).heap.size := by simp
        obtain ⟨W3, hW3⟩ : ∃ W, w'.alloc (.cells #[S wd, .bool true] 38) = W := ⟨_, rfl⟩
        rw [hW3] at HR3 HK3 HC3 HL HSZ3
        refine hK _ _ (fun _ => by rw [hW3]; exact ⟨cells_of HC3.out 3 _ rfl, cells_of HC3.out 7 _ rfl⟩) ?_
        clear hK K
        rw [hW3]
        refine oneH 1 (by rfl) (by kernel_rfl) (fun K hK => ?_)
        gi_wp2_with fail
        have HR4 := Lib.hid (HR3.out.alloc (.cells #[] 38))
        have HK4 := Lib.hid (HR3.out.keepAlloc HK3.out (.cells #[] 38))
        have HC4 := Lib.hid ((Below.heap_alloc W3 (.cells #[] 38) b HR3.out.bl).trans HC3.out)
        have HROW := Lib.hid (show Row (fun g => w'.heap.size ≤ g) 38 2 _ 0 (Tk.cellsW []) _ from (row_none W3 38 2).mono fun g hg => by have := HSZ3; omega)
        replace HL := Lib.hid ((Below.heap_alloc W3 (.cells #[] 38) _ (Array.getElem?_eq_some_iff.1 HL.out).1).trans HL.out)
        have HLR : w'.heap.size < W3.heap.size := by have := (Array.getElem?_eq_some_iff.1 HL.out).1; rw [← hW3]; simp
        have HSZ4 : w'.heap.size ≤ (W3.alloc (.cells #[] 38)).heap.size := by have := HSZ3; simp; omega
        obtain ⟨W4, hW4⟩ : ∃ W, W3.alloc (.cells #[] 38) = W := ⟨_, rfl⟩
        rw [hW4] at HR4 HK4 HC4 HROW HSZ4 HL
        refine hK _ _ (fun _ => by rw [hW4]; exact ⟨cells_of HC4.out 3 _ rfl, cells_of HC4.out 7 _ rfl⟩) ?_
        clear hK K
        rw [hW4]
        refine oneH 7 (by rfl) (by kernel_rfl) (fun K hK => ?_)
        gi_wp2_with (gi_at_builtin; refine append_wd (fun g => w'.heap.size ≤ g) (fun g => (Value.slice o words.length cap).ownBlock = some g) rfl _ _ 33 rfl 38 i0 Try.underlying33 HI.out HZ0.out HZ1.out HZ2.out _ 0 [] (by rfl) HROW.out _ words (by rfl) (Tk.WdRd.of_row HR4.out.rw) (by omega) HSZ4 ?_; intro v7 W5 hrow7 hgr7)
        simp only [Nat.zero_add, List.nil_append] at hrow7
        obtain ⟨o7, cap7, rfl⟩ := hrow7.form
        have HR5 := Lib.hid (HR2.out.grownFresh HR4.out hgr7 (fun k hk => HROW.out.2 k hk))
        have HC5 := Lib.hid ((hgr7.block b HR4.out.bl (fun e => by have := HROW.out.2 b e.symm; have := HR2.out.bl; omega)).trans HC4.out)
        have HK5 := Lib.hid (HK4.out.grown hgr7 (HROW.out.keepsOthers hgr7) HR4.out.zl (fun k hk hz => by have := HROW.out.2 k hk; have := HR2.out.zl k hz; omega))
        have HSZ5 : w'.heap.size ≤ W5.heap.size := by have := HSZ4; have := hgr7.size; omega
        replace HL := Lib.hid ((hgr7.block _ (Array.getElem?_eq_some_iff.1 HL.out).1 (fun e => by simp [Value.ownBlock] at e; omega)).trans HL.out)
        replace HROW := Lib.hid hrow7
        refine hK _ _ (fun _ => ⟨cells_of HC5.out 3 _ rfl, cells_of HC5.out 7 _ rfl⟩) ?_
        clear hK K hrow7 hgr7
        refine oneH 15 (by rfl) (by kernel_rfl) (fun K hK => ?_)
        gi_wp2_with (gi_at_builtin; refine append_in (fun g => w'.heap.size ≤ g) rfl _ _ 33 rfl 38 i0 (.agg #[.string ⟨#[]⟩, .bool false]) 2 24 Try.underlying33 HI.out HZ0.out HZ1.out HZ2.out rfl (by decide) _ words.length (Tk.cellsW words) (by rfl) HROW.out ⟨w'.heap.size, 0, none⟩ 1 1 [S wd, .bool true] (by rfl) (by rfl) (fun j u hj => by match j, hj with | 0, hj => cases hj; exact cells_of HL.out 0 _ rfl | 1, hj => cases hj; exact cells_of HL.out 1 _ rfl | j + 2, hj => simp at hj) (by intro u hu; simp at hu; rcases hu with rfl | rfl <;> rfl) (by unfold maxLen; omega) (by omega) HSZ5 ?_; intro v15 w15 hrow15 hgr15 _)
        obtain ⟨o15, cap15, rfl⟩ := hrow15.form
        have HR15 := Lib.hid ((HR2.out.grownFresh HR5.out hgr15 (fun k hk => HROW.out.2 k hk)).newW HR2.out (ws := words ++ [(wd, true)]) (by rw [Tk.cellsW_snoc]; simpa using hrow15))
        have HC15 := Lib.hid ((hgr15.block b HR5.out.bl (fun e => by have := HROW.out.2 b e.symm; have := HR2.out.bl; omega)).trans HC5.out)
        have HK15 := Lib.hid (HK5.out.grown hgr15 (HROW.out.keepsOthers hgr15) HR5.out.zl (fun k hk hz => by have := HROW.out.2 k hk; have := HR2.out.zl k hz; omega))
        have c3' := cells_of HC15.out 3 _ rfl
        have c7' := cells_of HC15.out 7 _ rfl
        have c8' := cells_of HC15.out 8 _ rfl
        have hz' := frozen_of HC15.out
        have hb' := HR15.out.bl
        refine hK _ _ (fun _ => ⟨c3', c7'⟩) ?_
        clear hK K hrow15 hgr15
        refine takeP 16 (v := ?qczv16) (fun _ => trivial) (by rfl) (by kernel_rfl) (.inl ⟨by kernel_rfl, fun w1 _ => ?qczy16⟩) ?_
        case qczy16 => (go_simp; try first | rfl | (rw [if_pos (by omega)]) | (rw [if_neg (by omega)]) | (rw [if_neg (by simp; omega)]) | (split <;> first | (exfalso; omega) | rfl))
        refine takeP 17 (v := ?qczv17) (fun _ => trivial) (by rfl) (by kernel_rfl) (.inl ⟨by kernel_rfl, fun w1 _ => ?qczy17⟩) ?_
        case qczy17 => (go_simp; try first | rfl | (rw [if_pos (by omega)]) | (rw [if_neg (by omega)]) | (rw [if_neg (by simp; omega)]) | (split <;> first | (exfalso; omega) | rfl))
        refine takeP 18 (v := ?qczv18) (fun _ => trivial) (by rfl) (by kernel_rfl) (.inl ⟨by kernel_rfl, fun w1 _ => ?qczy18⟩) ?_
        case qczy18 => (go_simp; try first | rfl | (rw [if_pos (by omega)]) | (rw [if_neg (by omega)]) | (rw [if_neg (by simp; omega)]) | (split <;> first | (exfalso; omega) | rfl))
        refine oneH 19 (by rfl) (by kernel_rfl) (fun K hK => ?_)
        gi_wp2_with fail
        refine hK _ _ (fun h => absurd h (by decide)) ?_
        clear hK K
        refine doneH (by kernel_rfl) ?_
        gi_wp2_with fail
        go_end0
        refine ⟨rfl, ?_, ((HK15.out.setCell HR15.out.bz _).setCell HR15.out.bz _).setCell HR15.out.bz _⟩
        unfold Tk.Lx.flush
        rw [if_neg (by simp)]
        exact ⟨Fz, vo, .slice o15 (words.length + 1) cap15, us, block_set (block_set (block_set HC15.out 3 _) 7 (S [])) 8 (.bool false), (((HR15.out.set 3 _).set 7 _).set 8 _).line _ _⟩
    · skip
      have HK := Lib.hid hk
      have hk0 : ((words.length : Int) == 0) = false := by rw [beq_eq_false_iff_ne]; have := List.length_pos_iff.2 hk; omega
      have hk2 : (words.length : Int) ≤ 1000000 := by omega
      clear hk
      refine (callsIn_wide (n := 0)).1 ?_
      refine callsIn_of_wp Try.func56 rfl trivial ?_ rfl
      simp only [Try.ntmps56, List.size_toArray, List.length_cons, List.length_nil, Nat.reduceAdd, Nat.reduceSub, Array.replicate_succ, Array.replicate_zero, List.push_toArray, List.append_toArray, List.nil_append, List.cons_append]
      gi_wp2_with fail
      obtain ⟨W1, hW1, HC1, HR1, HK1⟩ : ∃ W1, w = W1 ∧ Hid (W1.heap[b]? = some (.cells #[vo, .int .i64 ((if words = [] then n else line : Nat) : Int), .bool blank, .slice o words.length cap, .bool on, .int .i64 opn, .int .i64 first, S wd, .bool false] 73 (0, 0))) ∧
          Hid (Tk.Rest 35 38 Z b Fz vo (.slice o words.length cap) (.slice none 0 0) us ⟨out, line, blank, words, []⟩ W1) ∧ Hid (Keep Z w W1) :=
        ⟨_, rfl, Lib.hid (by rw [if_neg HK.out]; exact HC.out), Lib.hid HR.out, Lib.hid (Keep.refl _ _)⟩
      rw [hW1]
      clear hW1
      refine drawnH [1, 6, 7, 11, 13, 14, 15] (fun w' => w'.cell? ⟨b, 3, none⟩ = some (.slice o words.length cap) ∧ w'.cell? ⟨b, 7, none⟩ = some (S wd)) 20 rfl (by kernel_rfl) ?_
      intro w' hw'
      obtain ⟨HC2, HR2, HK2⟩ : Hid (w'.heap[b]? = _) ∧ Hid (Tk.Rest _ _ _ _ _ _ _ _ _ _ w') ∧ Hid (Keep Z w w') := by
        subst hw'; exact ⟨HC1, Lib.hid HR1.out.drew, Lib.hid HK1.out.drew⟩
      clear hw' HC1 HR1 HK1
      have hS : w'.cell? ⟨b, 3, none⟩ = some (.slice o words.length cap) ∧ w'.cell? ⟨b, 7, none⟩ = some (S wd) := ⟨cells_of HC2.out 3 _ rfl, cells_of HC2.out 7 _ rfl⟩
      have HWR := Lib.hid (Tk.WdRd.of_row HR2.out.rw)
      refine takeP 0 (v := ?qdv0) (fun _ => trivial) (by rfl) (by kernel_rfl) (.inl ⟨by kernel_rfl, fun w1 _ => ?qdy0⟩) ?_
      case qdy0 => (go_simp; try first | rfl | (rw [if_pos (by omega)]) | (rw [if_neg (by omega)]) | (rw [if_neg (by simp; omega)]) | (split <;> first | (exfalso; omega) | rfl))
      refine takeP 2 (v := ?qdv2) (fun _ => trivial) (by rfl) (by kernel_rfl) (.inl ⟨by kernel_rfl, fun w1 _ => ?qdy2⟩) ?_
      case qdy2 => (go_simp; try first | rfl | (rw [if_pos (by omega)]) | (rw [if_neg (by omega)]) | (rw [if_neg (by simp; omega)]) | (split <;> first | (exfalso; omega) | rfl))
      refine takeP 3 (v := ?qdv3) (fun _ => trivial) (by rfl) (by kernel_rfl) (.inl ⟨by kernel_rfl, fun w1 _ => ?qdy3⟩) ?_
      case qdy3 => (go_simp; try first | rfl | (rw [if_pos (by omega)]) | (rw [if_neg (by omega)]) | (rw [if_neg (by simp; omega)]) | (split <;> first | (exfalso; omega) | rfl))
      refine takeP 4 (v := ?qdv4) (fun _ => trivial) (by rfl) (by kernel_rfl) (.inl ⟨by kernel_rfl, fun w1 _ => ?qdy4⟩) ?_
      case qdy4 => (go_simp; try first | rfl | (rw [if_pos (by omega)]) | (rw [if_neg (by omega)]) | (rw [if_neg (by simp; omega)]) | (split <;> first | (exfalso; omega) | rfl))
      refine takeP 5 (v := ?qdv5) (fun _ => trivial) (by rfl) (by kernel_rfl) (.inl ⟨by kernel_rfl, fun w1 _ => ?qdy5⟩) ?_
      case qdy5 => (go_simp; try first | rfl | (rw [if_pos (by omega)]) | (rw [if_neg (by omega)]) | (rw [if_neg (by simp; omega)]) | (split <;> first | (exfalso; omega) | rfl))
      refine takeP 8 (v := ?qdv8) (fun _ => trivial) (by rfl) (by kernel_rfl) (.inl ⟨by kernel_rfl, fun w1 _ => ?qdy8⟩) ?_
      case qdy8 => (go_simp; try first | rfl | (rw [if_pos (by omega)]) | (rw [if_neg (by omega)]) | (rw [if_neg (by simp; omega)]) | (split <;> first | (exfalso; omega) | rfl))
      refine takeP 9 (v := ?qdv9) (fun _ => trivial) (by rfl) (by kernel_rfl) (.inl ⟨by kernel_rfl, fun w1 _ => ?qdy9⟩) ?_
      case qdy9 => (go_simp; try first | rfl | (rw [if_pos (by omega)]) | (rw [if_neg (by omega)]) | (rw [if_neg (by simp; omega)]) | (split <;> first | (exfalso; omega) | rfl))
      refine takeP 10 (v := ?qdv10) (fun _ => trivial) (by rfl) (by kernel_rfl) (.inl ⟨by kernel_rfl, fun w1 _ => ?qdy10⟩) ?_
      case qdy10 => (go_simp; try first | rfl | (rw [if_pos (by omega)]) | (rw [if_neg (by omega)]) | (rw [if_neg (by simp; omega)]) | (split <;> first | (exfalso; omega) | rfl))
      refine takeP 12 (v := ?qdv12) (fun _ => trivial) (by rfl) (by kernel_rfl) (.inl ⟨by kernel_rfl, fun w1 _ => ?qdy12⟩) ?_
      case qdy12 => (go_simp; try first | rfl | (rw [if_pos (by omega)]) | (rw [if_neg (by omega)]) | (rw [if_neg (by simp; omega)]) | (split <;> first | (exfalso; omega) | rfl))
      refine takeH 6 (v := ?qdv6) (fun _ => trivial) (by rfl) (by kernel_rfl) hS (.inl ⟨by kernel_rfl, fun w1 ⟨a1, a2⟩ => ?qdy6⟩) ?_
      case qdy6 => (go_simp; try first | rfl | (rw [if_pos (by omega)]) | (rw [if_neg (by omega)]) | (rw [if_neg (by simp; omega)]) | (split <;> first | (exfalso; omega) | rfl))
      refine takeH 11 (v := ?qdv11) (fun _ => trivial) (by rfl) (by kernel_rfl) hS (.inl ⟨by kernel_rfl, fun w1 ⟨a1, a2⟩ => ?qdy11⟩) ?_
      case qdy11 => (go_simp; try first | rfl | (rw [if_pos (by omega)]) | (rw [if_neg (by omega)]) | (rw [if_neg (by simp; omega)]) | (split <;> first | (exfalso; omega) | rfl))
      refine takeH 13 (v := ?qdv13) (fun _ => trivial) (by rfl) (by kernel_rfl) hS (.inl ⟨by kernel_rfl, fun w1 ⟨a1, a2⟩ => ?qdy13⟩) ?_
      case qdy13 => (go_simp; try first | rfl | (rw [if_pos (by omega)]) | (rw [if_neg (by omega)]) | (rw [if_neg (by simp; omega)]) | (split <;> first | (exfalso; omega) | rfl))
      refine twoH 1 14 (by rfl) (by rfl) (by kernel_rfl) (fun K hK => ?_) (fun K hK => ?_)
      · skip
        gi_wp2_with fail
        have HR3 := Lib.hid (HR2.out.alloc (.cells #[] 38))
        have HK3 := Lib.hid (HR2.out.keepAlloc HK2.out (.cells #[] 38))
        have HC3 := Lib.hid ((Below.heap_alloc w' (.cells #[] 38) b HR2.out.bl).trans HC2.out)
        have HROW := Lib.hid (show Row (fun g => w'.heap.size ≤ g) 38 2 _ 0 (Tk.cellsW []) _ from (row_none w' 38 2).mono fun g hg => by exact hg)
        have HSZ3 : w'.heap.size ≤ (w'.alloc (.cells #[] 38)).heap.size := by simp
        obtain ⟨W3, hW3⟩ : ∃ W, w'.alloc (.cells #[] 38) = W := ⟨_, rfl⟩
        rw [hW3] at HR3 HK3 HC3 HROW HSZ3
        refine hK _ _ (fun _ => by rw [hW3]; exact ⟨cells_of HC3.out 3 _ rfl, cells_of HC3.out 7 _ rfl⟩) ?_
        have hgt3 : w'.heap.size < W3.heap.size := by rw [← hW3]; simp
        clear hK K
        rw [hW3]
        refine twoH 7 14 (by rfl) (by rfl) (by kernel_rfl) (fun K hK => ?_) (fun K hK => ?_)
        · skip
          gi_wp2_with (gi_at_builtin; refine append_wd (fun g => w'.heap.size ≤ g) (fun g => (Value.slice o words.length cap).ownBlock = some g) rfl _ _ 33 rfl 38 i0 Try.underlying33 HI.out HZ0.out HZ1.out HZ2.out _ 0 [] (by rfl) HROW.out _ words (by rfl) (Tk.WdRd.of_row HR3.out.rw) (by omega) HSZ3 ?_; intro v7 W4 hrow7 hgr7)
          simp only [Nat.zero_add, List.nil_append] at hrow7
          obtain ⟨o7, cap7, rfl⟩ := hrow7.form
          have HR4 := Lib.hid (HR2.out.grownFresh HR3.out hgr7 (fun k hk => HROW.out.2 k hk))
          have HC4 := Lib.hid ((hgr7.block b HR3.out.bl (fun e => by have := HROW.out.2 b e.symm; have := HR2.out.bl; omega)).trans HC3.out)
          have HK4 := Lib.hid (HK3.out.grown hgr7 (HROW.out.keepsOthers hgr7) HR3.out.zl (fun k hk hz => by have := HROW.out.2 k hk; have := HR2.out.zl k hz; omega))
          have HSZ4 : w'.heap.size ≤ W4.heap.size := by have := HSZ3; have := hgr7.size; omega
          replace HROW := Lib.hid hrow7
          refine hK _ _ (fun _ => ⟨cells_of HC4.out 3 _ rfl, cells_of HC4.out 7 _ rfl⟩) ?_
          clear hK K hrow7 hgr7
          refine oneH 14 (by rfl) (by kernel_rfl) (fun K hK => ?_)
          gi_wp2_with fail
          have HR5 := Lib.hid (HR4.out.alloc (.cells #[S wd, .bool true] 38))
          have HK5 := Lib.hid (HR4.out.keepAlloc HK4.out (.cells #[S wd, .bool true] 38))
          have HC5 := Lib.hid ((Below.heap_alloc W4 (.cells #[S wd, .bool true] 38) b HR4.out.bl).trans HC4.out)
          have HL := Lib.hid (World.alloc_heap_new W4 (.cells #[S wd, .bool true] 38))
          replace HROW := Lib.hid (HROW.out.alloc (.cells #[S wd, .bool true] 38))
          have HSZ5 : w'.heap.size ≤ (W4.alloc (.cells #[S wd, .bool true] 38)).heap.size := by have := HSZ4; simp; omega
          obtain ⟨W5, hW5⟩ : ∃ W, W4.alloc (.cells #[S wd, .bool true] 38) = W := ⟨_, rfl⟩
          rw [hW5] at HR5 HK5 HC5 HL HSZ5 HROW
          refine hK _ _ (fun _ => by rw [hW5]; exact ⟨cells_of HC5.out 3 _ rfl, cells_of HC5.out 7 _ rfl⟩) ?_
          clear hK K
          rw [hW5]
          refine oneH 15 (by rfl) (by kernel_rfl) (fun K hK => ?_)
          gi_wp2_with (gi_at_builtin; refine append_in (fun g => w'.heap.size ≤ g) rfl _ _ 33 rfl 38 i0 (.agg #[.string ⟨#[]⟩, .bool false]) 2 24 Try.underlying33 HI.out HZ0.out HZ1.out HZ2.out rfl (by decide) _ words.length (Tk.cellsW words) (by rfl) HROW.out ⟨W4.heap.size, 0, none⟩ 1 1 [S wd, .bool true] (by rfl) (by rfl) (fun j u hj => by match j, hj with | 0, hj => cases hj; exact cells_of HL.out 0 _ rfl | 1, hj => cases hj; exact cells_of HL.out 1 _ rfl | j + 2, hj => simp at hj) (by intro u hu; simp at hu; rcases hu with rfl | rfl <;> rfl) (by unfold maxLen; omega) (by omega) HSZ5 ?_; intro v15 w15 hrow15 hgr15 _)
          obtain ⟨o15, cap15, rfl⟩ := hrow15.form
          have HR15 := Lib.hid ((HR2.out.grownFresh HR5.out hgr15 (fun k hk => HROW.out.2 k hk)).newW HR2.out (ws := words ++ [(wd, true)]) (by rw [Tk.cellsW_snoc]; simpa using hrow15))
          have HC15 := Lib.hid ((hgr15.block b HR5.out.bl (fun e => by have := HROW.out.2 b e.symm; have := HR2.out.bl; omega)).trans HC5.out)
          have HK15 := Lib.hid (HK5.out.grown hgr15 (HROW.out.keepsOthers hgr15) HR5.out.zl (fun k hk hz => by have := HROW.out.2 k hk; have := HR2.out.zl k hz; omega))
          have c3' := cells_of HC15.out 3 _ rfl
          have c7' := cells_of HC15.out 7 _ rfl
          have c8' := cells_of HC15.out 8 _ rfl
          have hz' := frozen_of HC15.out
          have hb' := HR15.out.bl
          refine hK _ _ (fun _ => ⟨c3', c7'⟩) ?_
          clear hK K hrow15 hgr15
          refine takeP 16 (v := ?qdxv16) (fun _ => trivial) (by rfl) (by kernel_rfl) (.inl ⟨by kernel_rfl, fun w1 _ => ?qdxy16⟩) ?_
          case qdxy16 => (go_simp; try first | rfl | (rw [if_pos (by omega)]) | (rw [if_neg (by omega)]) | (rw [if_neg (by simp; omega)]) | (split <;> first | (exfalso; omega) | rfl))
          refine takeP 17 (v := ?qdxv17) (fun _ => trivial) (by rfl) (by kernel_rfl) (.inl ⟨by kernel_rfl, fun w1 _ => ?qdxy17⟩) ?_
          case qdxy17 => (go_simp; try first | rfl | (rw [if_pos (by omega)]) | (rw [if_neg (by omega)]) | (rw [if_neg (by simp; omega)]) | (split <;> first | (exfalso; omega) | rfl))
          refine takeP 18 (v := ?qdxv18) (fun _ => trivial) (by rfl) (by kernel_rfl) (.inl ⟨by kernel_rfl, fun w1 _ => ?qdxy18⟩) ?_
          case qdxy18 => (go_simp; try first | rfl | (rw [if_pos (by omega)]) | (rw [if_neg (by omega)]) | (rw [if_neg (by simp; omega)]) | (split <;> first | (exfalso; omega) | rfl))
          refine oneH 19 (by rfl) (by kernel_rfl) (fun K hK => ?_)
          gi_wp2_with fail
          refine hK _ _ (fun h => absurd h (by decide)) ?_
          clear hK K
          refine doneH (by kernel_rfl) ?_
          gi_wp2_with fail
          go_end0
          refine ⟨rfl, ?_, ((HK15.out.setCell HR15.out.bz _).setCell HR15.out.bz _).setCell HR15.out.bz _⟩
          unfold Tk.Lx.flush
          rw [if_neg (by simp)]
          exact ⟨Fz, vo, .slice o15 (words.length + 1) cap15, us, block_set (block_set (block_set HC15.out 3 _) 7 (S [])) 8 (.bool false), (((HR15.out.set 3 _).set 7 _).set 8 _).line _ _⟩
        · skip
          gi_wp2_with fail
          have HR4 := Lib.hid (HR3.out.alloc (.cells #[S wd, .bool true] 38))
          have HK4 := Lib.hid (HR3.out.keepAlloc HK3.out (.cells #[S wd, .bool true] 38))
          have HC4 := Lib.hid ((Below.heap_alloc W3 (.cells #[S wd, .bool true] 38) b HR3.out.bl).trans HC3.out)
          have HL := Lib.hid (World.alloc_heap_new W3 (.cells #[S wd, .bool true] 38))
          replace HROW := Lib.hid (HROW.out.alloc (.cells #[S wd, .bool true] 38))
          have HSZ4 : w'.heap.size ≤ (W3.alloc (.cells #[S wd, .bool true] 38)).heap.size := by have := HSZ3; simp; omega
          obtain ⟨W4, hW4⟩ : ∃ W, W3.alloc (.cells #[S wd, .bool true] 38) = W := ⟨_, rfl⟩
          rw [hW4] at HR4 HK4 HC4 HL HSZ4 HROW
          refine hK _ _ (fun _ => by rw [hW4]; exact ⟨cells_of HC4.out 3 _ rfl, cells_of HC4.out 7 _ rfl⟩) ?_
          clear hK K
          rw [hW4]
          refine oneH 7 (by rfl) (by kernel_rfl) (fun K hK => ?_)
          gi_wp2_with (gi_at_builtin; refine append_wd (fun g => w'.heap.size ≤ g) (fun g => (Value.slice o words.length cap).ownBlock = some g) rfl _ _ 33 rfl 38 i0 Try.underlying33 HI.out HZ0.out HZ1.out HZ2.out _ 0 [] (by rfl) HROW.out _ words (by rfl) (Tk.WdRd.of_row HR4.out.rw) (by omega) HSZ4 ?_; intro v7 W5 hrow7 hgr7)
          simp only [Nat.zero_add, List.nil_append] at hrow7
          obtain ⟨o7, cap7, rfl⟩ := hrow7.form
          have HR5 := Lib.hid (HR2.out.grownFresh HR4.out hgr7 (fun k hk => HROW.out.2 k hk))
          have HC5 := Lib.hid ((hgr7.block b HR4.out.bl (fun e => by have := HROW.out.2 b e.symm; have := HR2.out.bl; omega)).trans HC4.out)
          have HK5 := Lib.hid (HK4.out.grown hgr7 (HROW.out.keepsOthers hgr7) HR4.out.zl (fun k hk hz => by have := HROW.out.2 k hk; have := HR2.out.zl k hz; omega))
          have HSZ5 : w'.heap.size ≤ W5.heap.size := by have := HSZ4; have := hgr7.size; omega
          replace HL := Lib.hid ((hgr7.block _ (Array.getElem?_eq_some_iff.1 HL.out).1 (fun e => by simp [Value.ownBlock] at e; omega)).trans HL.out)
          replace HROW := Lib.hid hrow7
          refine hK _ _ (fun _ => ⟨cells_of HC5.out 3 _ rfl, cells_of HC5.out 7 _ rfl⟩) ?_
          clear hK K hrow7 hgr7
          refine oneH 15 (by rfl) (by kernel_rfl) (fun K hK => ?_)
          gi_wp2_with (gi_at_builtin; refine append_in (fun g => w'.heap.size ≤ g) rfl _ _ 33 rfl 38 i0 (.agg #[.string ⟨#[]⟩, .bool false]) 2 24 Try.underlying33 HI.out HZ0.out HZ1.out HZ2.out rfl (by decide) _ words.length (Tk.cellsW words) (by rfl) HROW.out ⟨W3.heap.size, 0, none⟩ 1 1 [S wd, .bool true] (by rfl) (by rfl) (fun j u hj => by match j, hj with | 0, hj => cases hj; exact cells_of HL.out 0 _ rfl | 1, hj => cases hj; exact cells_of HL.out 1 _ rfl | j + 2, hj => simp at hj) (by intro u hu; simp at hu; rcases hu with rfl | rfl <;> rfl) (by unfold maxLen; omega) (by omega) HSZ5 ?_; intro v15 w15 hrow15 hgr15 _)
          obtain ⟨o15, cap15, rfl⟩ := hrow15.form
          have HR15 := Lib.hid ((HR2.out.grownFresh HR5.out hgr15 (fun k hk => HROW.out.2 k hk)).newW HR2.out (ws := words ++ [(wd, true)]) (by rw [Tk.cellsW_snoc]; simpa using hrow15))
          have HC15 := Lib.hid ((hgr15.block b HR5.out.bl (fun e => by have := HROW.out.2 b e.symm; have := HR2.out.bl; omega)).trans HC5.out)
          have HK15 := Lib.hid (HK5.out.grown hgr15 (HROW.out.keepsOthers hgr15) HR5.out.zl (fun k hk hz => by have := HROW.out.2 k hk; have := HR2.out.zl k hz; omega))
          have c3' := cells_of HC15.out 3 _ rfl
          have c7' := cells_of HC15.out 7 _ rfl
          have c8' := cells_of HC15.out 8 _ rfl
          have hz' := frozen_of HC15.out
          have hb' := HR15.out.bl
          refine hK _ _ (fun _ => ⟨c3', c7'⟩) ?_
          clear hK K hrow15 hgr15
          refine takeP 16 (v := ?qdyv16) (fun _ => trivial) (by rfl) (by kernel_rfl) (.inl ⟨by kernel_rfl, fun w1 _ => ?qdyy16⟩) ?_
          case qdyy16 => (go_simp; try first | rfl | (rw [if_pos (by omega)]) | (rw [if_neg (by omega)]) | (rw [if_neg (by simp; omega)]) | (split <;> first | (exfalso; omega) | rfl))
          refine takeP 17 (v := ?qdyv17) (fun _ => trivial) (by rfl) (by kernel_rfl) (.inl ⟨by kernel_rfl, fun w1 _ => ?qdyy17⟩) ?_
          case qdyy17 => (go_simp; try first | rfl | (rw [if_pos (by omega)]) | (rw [if_neg (by omega)]) | (rw [if_neg (by simp; omega)]) | (split <;> first | (exfalso; omega) | rfl))
          refine takeP 18 (v := ?qdyv18) (fun _ => trivial) (by rfl) (by kernel_rfl) (.inl ⟨by kernel_rfl, fun w1 _ => ?qdyy18⟩) ?_
          case qdyy18 => (go_simp; try first | rfl | (rw [if_pos (by omega)]) | (rw [if_neg (by omega)]) | (rw [if_neg (by simp; omega)]) | (split <;> first | (exfalso; omega) | rfl))
          refine oneH 19 (by rfl) (by kernel_rfl) (fun K hK => ?_)
          gi_wp2_with fail
          refine hK _ _ (fun h => absurd h (by decide)) ?_
          clear hK K
          refine doneH (by kernel_rfl) ?_
          gi_wp2_with fail
          go_end0
          refine ⟨rfl, ?_, ((HK15.out.setCell HR15.out.bz _).setCell HR15.out.bz _).setCell HR15.out.bz _⟩
          unfold Tk.Lx.flush
          rw [if_neg (by simp)]
          exact ⟨Fz, vo, .slice o15 (words.length + 1) cap15, us, block_set (block_set (block_set HC15.out 3 _) 7 (S [])) 8 (.bool false), (((HR15.out.set 3 _).set 7 _).set 8 _).line _ _⟩
      · skip
        gi_wp2_with fail
        have HR3 := Lib.hid (HR2.out.alloc (.cells #[S wd, .bool true] 38))
        have HK3 := Lib.hid (HR2.out.keepAlloc HK2.out (.cells #[S wd, .bool true] 38))
        have HC3 := Lib.hid ((Below.heap_alloc w' (.cells #[S wd, .bool true] 38) b HR2.out.bl).trans HC2.out)
        have HL := Lib.hid (World.alloc_heap_new w' (.cells #[S wd, .bool true] 38))
        have HSZ3 : w'.heap.size ≤ (w'.alloc (.cells #[S wd, .bool true] 38)).heap.size := by simp
        obtain ⟨W3, hW3⟩ : ∃ W, w'.alloc (.cells #[S wd, .bool true] 38) = W := ⟨_, rfl⟩
        rw [hW3] at HR3 HK3 HC3 HL HSZ3
        refine hK _ _ (fun _ => by rw [hW3]; exact ⟨cells_of HC3.out 3 _ rfl, cells_of HC3.out 7 _ rfl⟩) ?_
        clear hK K
        rw [hW3]
        refine oneH 1 (by rfl) (by kernel_rfl) (fun K hK => ?_)
        gi_wp2_with fail
        have HR4 := Lib.hid (HR3.out.alloc (.cells #[] 38))
        have HK4 := Lib.hid (HR3.out.keepAlloc HK3.out (.cells #[] 38))
        have HC4 := Lib.hid ((Below.heap_alloc W3 (.cells #[] 38) b HR3.out.bl).trans HC3.out)
        have HROW := Lib.hid (show Row (fun g => w'.heap.size ≤ g) 38 2 _ 0 (Tk.cellsW []) _ from (row_none W3 38 2).mono fun g hg => by have := HSZ3; omega)
        replace HL := Lib.hid ((Below.heap_alloc W3 (.cells #[] 38) _ (Array.getElem?_eq_some_iff.1 HL.out).1).trans HL.out)
        have HLR : w'.heap.size < W3.heap.size := by have := (Array.getElem?_eq_some_iff.1 HL.out).1; rw [← hW3]; simp
        have HSZ4 : w'.heap.size ≤ (W3.alloc (.cells #[] 38)).heap.size := by have := HSZ3; simp; omega
        obtain ⟨W4, hW4⟩ : ∃ W, W3.alloc (.cells #[] 38) = W := ⟨_, rfl⟩
        rw [hW4] at HR4 HK4 HC4 HROW HSZ4 HL
        refine hK _ _ (fun _ => by rw [hW4]; exact ⟨cells_of HC4.out 3 _ rfl, cells_of HC4.out 7 _ rfl⟩) ?_
        clear hK K
        rw [hW4]
        refine oneH 7 (by rfl) (by kernel_rfl) (fun K hK => ?_)
        gi_wp2_with (gi_at_builtin; refine append_wd (fun g => w'.heap.size ≤ g) (fun g => (Value.slice o words.length cap).ownBlock = some g) rfl _ _ 33 rfl 38 i0 Try.underlying33 HI.out HZ0.out HZ1.out HZ2.out _ 0 [] (by rfl) HROW.out _ words (by rfl) (Tk.WdRd.of_row HR4.out.rw) (by omega) HSZ4 ?_; intro v7 W5 hrow7 hgr7)
        simp only [Nat.zero_add, List.nil_append] at hrow7
        obtain ⟨o7, cap7, rfl⟩ := hrow7.form
        have HR5 := Lib.hid (HR2.out.grownFresh HR4.out hgr7 (fun k hk => HROW.out.2 k hk))
        have HC5 := Lib.hid ((hgr7.block b HR4.out.bl (fun e => by have := HROW.out.2 b e.symm; have := HR2.out.bl; omega)).trans HC4.out)
        have HK5 := Lib.hid (HK4.out.grown hgr7 (HROW.out.keepsOthers hgr7) HR4.out.zl (fun k hk hz => by have := HROW.out.2 k hk; have := HR2.out.zl k hz; omega))
        have HSZ5 : w'.heap.size ≤ W5.heap.size := by have := HSZ4; have := hgr7.size; omega
        replace HL := Lib.hid ((hgr7.block _ (Array.getElem?_eq_some_iff.1 HL.out).1 (fun e => by simp [Value.ownBlock] at e; omega)).trans HL.out)
        replace HROW := Lib.hid hrow7
        refine hK _ _ (fun _ => ⟨cells_of HC5.out 3 _ rfl, cells_of HC5.out 7 _ rfl⟩) ?_
        clear hK K hrow7 hgr7
        refine oneH 15 (by rfl) (by kernel_rfl) (fun K hK => ?_)
        gi_wp2_with (gi_at_builtin; refine append_in (fun g => w'.heap.size ≤ g) rfl _ _ 33 rfl 38 i0 (.agg #[.string ⟨#[]⟩, .bool false]) 2 24 Try.underlying33 HI.out HZ0.out HZ1.out HZ2.out rfl (by decide) _ words.length (Tk.cellsW words) (by rfl) HROW.out ⟨w'.heap.size, 0, none⟩ 1 1 [S wd, .bool true] (by rfl) (by rfl) (fun j u hj => by match j, hj with | 0, hj => cases hj; exact cells_of HL.out 0 _ rfl | 1, hj => cases hj; exact cells_of HL.out 1 _ rfl | j + 2, hj => simp at hj) (by intro u hu; simp at hu; rcases hu with rfl | rfl <;> rfl) (by unfold maxLen; omega) (by omega) HSZ5 ?_; intro v15 w15 hrow15 hgr15 _)
        obtain ⟨o15, cap15, rfl⟩ := hrow15.form
        have HR15 := Lib.hid ((HR2.out.grownFresh HR5.out hgr15 (fun k hk => HROW.out.2 k hk)).newW HR2.out (ws := words ++ [(wd, true)]) (by rw [Tk.cellsW_snoc]; simpa using hrow15))
        have HC15 := Lib.hid ((hgr15.block b HR5.out.bl (fun e => by have := HROW.out.2 b e.symm; have := HR2.out.bl; omega)).trans HC5.out)
        have HK15 := Lib.hid (HK5.out.grown hgr15 (HROW.out.keepsOthers hgr15) HR5.out.zl (fun k hk hz => by have := HROW.out.2 k hk; have := HR2.out.zl k hz; omega))
        have c3' := cells_of HC15.out 3 _ rfl
        have c7' := cells_of HC15.out 7 _ rfl
        have c8' := cells_of HC15.out 8 _ rfl
        have hz' := frozen_of HC15.out
        have hb' := HR15.out.bl
        refine hK _ _ (fun _ => ⟨c3', c7'⟩) ?_
        clear hK K hrow15 hgr15
        refine takeP 16 (v := ?qdzv16) (fun _ => trivial) (by rfl) (by kernel_rfl) (.inl ⟨by kernel_rfl, fun w1 _ => ?qdzy16⟩) ?_
        case qdzy16 => (go_simp; try first | rfl | (rw [if_pos (by omega)]) | (rw [if_neg (by omega)]) | (rw [if_neg (by simp; omega)]) | (split <;> first | (exfalso; omega) | rfl))
        refine takeP 17 (v := ?qdzv17) (fun _ => trivial) (by rfl) (by kernel_rfl) (.inl ⟨by kernel_rfl, fun w1 _ => ?qdzy17⟩) ?_
        case qdzy17 => (go_simp; try first | rfl | (rw [if_pos (by omega)]) | (rw [if_neg (by omega)]) | (rw [if_neg (by simp; omega)]) | (split <;> first | (exfalso; omega) | rfl))
        refine takeP 18 (v := ?qdzv18) (fun _ => trivial) (by rfl) (by kernel_rfl) (.inl ⟨by kernel_rfl, fun w1 _ => ?qdzy18⟩) ?_
        case qdzy18 => (go_simp; try first | rfl | (rw [if_pos (by omega)]) | (rw [if_neg (by omega)]) | (rw [if_neg (by simp; omega)]) | (split <;> first | (exfalso; omega) | rfl))
        refine oneH 19 (by rfl) (by kernel_rfl) (fun K hK => ?_)
        gi_wp2_with fail
        refine hK _ _ (fun h => absurd h (by decide)) ?_
        clear hK K
        refine doneH (by kernel_rfl) ?_
        gi_wp2_with fail
        go_end0
        refine ⟨rfl, ?_, ((HK15.out.setCell HR15.out.bz _).setCell HR15.out.bz _).setCell HR15.out.bz _⟩
        unfold Tk.Lx.flush
        rw [if_neg (by simp)]
        exact ⟨Fz, vo, .slice o15 (words.length + 1) cap15, us, block_set (block_set (block_set HC15.out 3 _) 7 (S [])) 8 (.bool false), (((HR15.out.set 3 _).set 7 _).set 8 _).line _ _⟩
end Go.Proofs.Yticljagcigiejaa
