import Derived.Test.YtneghhbclefmoaaGreatJZnE
section
/- Zones: where a name lies; what encloses it; the star that it has. -/
namespace Go.Proofs.YtneghhbclefmoaaGreat
open Go.RowKit Go.Shelf Go.Sort
set_option maxRecDepth 100000
attribute [local go_sem] Oper.semAt_some

theorem Zn.wher_not {o n : Zn.Nam} {L : List Rc.PRec} (h : Nm.under n o = false) : Zn.wher o L n = 0 := by unfold Zn.wher; rw [if_neg (by rw [h]; exact Bool.false_ne_true)]
theorem Zn.wher_some {o n : Zn.Nam} {L : List Rc.PRec} {k : Nat} (h : Nm.under n o = true) (hc : Zn.cutAt o L n = some k) : Zn.wher o L n = if n.length - k = n.length then 2 else 3 := by unfold Zn.wher; rw [if_pos h, hc]; simp
set_option maxHeartbeats 1000000 in
theorem zWhere_any {w w0 : World} (zo vr vn : Value) (l : List (El w)) (o n : List (List UInt8)) (hb0 : Below w.heap.size w w0) (hv : RecsRd vr (l.map (·.1)) w0) (na : l.length ≤ 1000) (ho : Rd zo o w0) (no : NB o) (hn : Rd vn n w0) (nn : NB n) :
    Calls Tryz.prog 21 #[.agg #[zo, vr], vn] w0 (Gives (.int .i64 (Zn.wher o (plE l) n)) w0) := by
  obtain ⟨oo, co, rfl, _, _⟩ := ho.form
  obtain ⟨on, cn, rfl, _, _⟩ := hn.form
  obtain ⟨ov, cv, rfl⟩ : ∃ o cap, vr = .slice o l.length cap := by obtain ⟨_, o, cap, h, _⟩ := hv; exact ⟨o, cap, by rw [h, List.length_map]⟩
  obtain ⟨W1, hW1⟩ : ∃ W1, w0.alloc (.cells #[.slice oo o.length co, .slice ov l.length cv] 29) = W1 := ⟨_, rfl⟩
  have hbW : Below w0.heap.size w0 W1 := by subst hW1; exact (Below.refl _ _).alloc (Nat.le_refl _) _
  have b0 : Blk w0.heap.size #[.slice oo o.length co, .slice ov l.length cv] 29 W1 := by subst hW1; exact Blk.new w0 _ _
  have c00 : W1.cell? ⟨w0.heap.size, 0, none⟩ = some _ := b0.cell 0
  have c01 : W1.cell? ⟨w0.heap.size, 1, none⟩ = some _ := b0.cell 1
  have HB := Lib.hid hbW
  have B0 := Lib.hid b0
  have HC := Lib.hid (fun w1 (b1 : Below W1.heap.size W1 w1) => zCutOf_any (w0 := w1) _ _ _ l o n (below5 (below5 hb0 hbW) b1) ((hv.kept hbW).kept b1) na ((ho.below hbW).below b1) no ((hn.below hbW).below b1) nn)
  have HN := Lib.hid (hn.below hbW)
  have HO := Lib.hid (ho.below hbW)
  have NN := Lib.hid nn
  have NO := Lib.hid no
  have ln : (n.length : Int) ≤ 1000 := by have := nn.1; omega
  have lo : (o.length : Int) ≤ 1000 := by have := no.1; omega
  clear hv hn ho nn no hb0 hbW b0
  rcases hu : Nm.under n o with _ | _
  · have HU := Lib.hid hu
    clear hu
    go_enter Tryz.func21, Tryz.ntmps21
    go_wp2_with fail
    refine (nUnder_any _ _ n o _ HN.out HO.out NN.out NO.out).mono ?_
    rintro e w1 ⟨rfl, b1⟩
    rw [HU.out]
    go_wp2_with fail
    go_ret
    exact ⟨by rw [Zn.wher_not HU.out]; rfl, below5 HB.out b1⟩
  · have HU := Lib.hid hu
    clear hu
    rcases hc : Zn.cutAt o (plE l) n with _ | k
    · have HK := Lib.hid hc
      have HI := Lib.hid (Zn.cut_none hc)
      clear hc
      go_enter Tryz.func21, Tryz.ntmps21
      go_wp2_with fail
      refine (nUnder_any _ _ n o _ HN.out HO.out NN.out NO.out).mono ?_
      rintro e w1 ⟨rfl, b1⟩
      rw [HU.out]
      have d00 : w1.cell? ⟨w0.heap.size, 0, none⟩ = some _ := (B0.out.below b1).cell 0
      have d01 : w1.cell? ⟨w0.heap.size, 1, none⟩ = some _ := (B0.out.below b1).cell 1
      have hb1 := below5 HB.out b1
      have HC1 := Lib.hid (HC.out _ b1)
      clear b1
      go_wp2_with fail
      refine HC1.out.mono ?_
      rintro e w2 ⟨v2, rfl, r2, b2⟩
      rw [HI.out.1]
      rw [HI.out.2] at r2
      obtain ⟨o2, c2, rfl, _, _⟩ := r2.form
      go_wp2_with fail
      go_ret
      exact ⟨by rw [Zn.wher_none HU.out HK.out]; rfl, below5 hb1 b2⟩
    · have hw := Zn.wher_some HU.out hc
      have HK := Lib.hid hc
      have HI := Lib.hid (Zn.cut_some hc)
      have hk := Zn.cutAt_some hc
      have hcl : (n.drop k).length = n.length - k := by simp
      clear hc
      obtain ⟨m, hm⟩ : ∃ m, n.length - k = m := ⟨_, rfl⟩
      rw [hm] at hw hcl
      have HW := Lib.hid hw
      have hm1 : m ≤ n.length := by omega
      clear hw hk hm
      obtain ⟨x, hx⟩ : ∃ x, n.drop k = x := ⟨_, rfl⟩
      rw [hx] at hcl
      have HX := Lib.hid hx
      clear hx
      by_cases hl : m = n.length
      · have HL := Lib.hid hl
        have hlz : ((m : Int) == (n.length : Int)) = true := by simp [hl]
        have hlz2 : decide (m = n.length) = true := by simp [hl]
        clear hl
        go_enter Tryz.func21, Tryz.ntmps21
        go_wp2_with fail
        refine (nUnder_any _ _ n o _ HN.out HO.out NN.out NO.out).mono ?_
        rintro e w1 ⟨rfl, b1⟩
        rw [HU.out]
        have d00 : w1.cell? ⟨w0.heap.size, 0, none⟩ = some _ := (B0.out.below b1).cell 0
        have d01 : w1.cell? ⟨w0.heap.size, 1, none⟩ = some _ := (B0.out.below b1).cell 1
        have hb1 := below5 HB.out b1
        have HC1 := Lib.hid (HC.out _ b1)
        clear b1
        go_wp2_with fail
        refine HC1.out.mono ?_
        rintro e w2 ⟨v2, rfl, r2, b2⟩
        rw [HI.out.1]
        rw [HI.out.2, HX.out] at r2
        obtain ⟨o2, c2, rfl, _, _⟩ := r2.form
        clear r2
        rw [hcl]
        go_wp2_with fail
        go_ret
        exact ⟨by rw [HW.out, if_pos HL.out]; rfl, below5 hb1 b2⟩
      · have HL := Lib.hid hl
        have hlz : ((m : Int) == (n.length : Int)) = false := by rw [beq_eq_false_iff_ne]; omega
        have hlz2 : decide (m = n.length) = false := by rw [decide_eq_false_iff_not]; omega
        clear hl
        go_enter Tryz.func21, Tryz.ntmps21
        go_wp2_with fail
        refine (nUnder_any _ _ n o _ HN.out HO.out NN.out NO.out).mono ?_
        rintro e w1 ⟨rfl, b1⟩
        rw [HU.out]
        have d00 : w1.cell? ⟨w0.heap.size, 0, none⟩ = some _ := (B0.out.below b1).cell 0
        have d01 : w1.cell? ⟨w0.heap.size, 1, none⟩ = some _ := (B0.out.below b1).cell 1
        have hb1 := below5 HB.out b1
        have HC1 := Lib.hid (HC.out _ b1)
        clear b1
        go_wp2_with fail
        refine HC1.out.mono ?_
        rintro e w2 ⟨v2, rfl, r2, b2⟩
        rw [HI.out.1]
        rw [HI.out.2, HX.out] at r2
        obtain ⟨o2, c2, rfl, _, _⟩ := r2.form
        clear r2
        rw [hcl]
        go_wp2_with fail
        go_ret
        exact ⟨by rw [HW.out, if_neg HL.out]; rfl, below5 hb1 b2⟩
end Go.Proofs.YtneghhbclefmoaaGreat
end
section
/- Zones: what encloses a name; the star that it has. -/
namespace Go.Proofs.YtneghhbclefmoaaGreat
open Go.RowKit Go.Shelf Go.Sort
set_option maxRecDepth 100000
attribute [local go_sem] Oper.semAt_some

/-- memory between two rounds that go down -/
structure EncM (B : Nat) (w ws : World) (zo vr : Value) (n : Zn.Nam) (out : Nat) (W : World) : Prop where
  zb : Blk B #[zo, vr] 29 W
  ob : ∃ o c, Box (B + 2) 23 (.slice o (n.length - out) c) W ∧ Rd (.slice o (n.length - out) c) (n.drop out) W
  kp : keepS (fun b => b < ws.heap.size ∧ b ≠ B + 2) ws W
  below : Below B w W
  size : ws.heap.size ≤ W.heap.size
theorem EncM.put {B w ws zo vr n out L} (hL : ws.heap.size ≤ L) (hB : B ≤ ws.heap.size) {A : World} {r : Loop} (h : EncM B w ws zo vr n out A) (hr : A.heap[L]? = some (.loop r)) (ob : Obj) : EncM B w ws zo vr n out (A.putObj L ob) := by
  obtain ⟨o, c, h1, h2⟩ := h.ob
  exact ⟨h.zb.put hr ob, ⟨o, c, h1.put hr ob, h2.put hr ob⟩, h.kp.trans (keepS.put (fun e => by omega) A ob), below_put h.below (by omega) hr (by have := h.size; omega) ob, by simpa using h.size⟩
theorem EncM.on {B w ws zo vr n out} {A W : World} (h : EncM B w ws zo vr n out A) (hb : Below A.heap.size A W) (hBA : B ≤ A.heap.size) : EncM B w ws zo vr n out W := by
  obtain ⟨o, c, h1, h2⟩ := h.ob
  exact ⟨h.zb.below hb, ⟨o, c, h1.below hb, h2.below hb⟩, h.kp.trans (keepS.of_below hb (fun b hb' => by have := h.size; omega)), h.below.trans (hb.mono hBA), by have := hb.size; have := h.size; omega⟩
def EncI (B : Nat) (w ws : World) (zo vr : Value) (o : Zn.Nam) (L : List Rc.PRec) (n : Zn.Nam) (k : Nat) (W : World) : Prop :=
  ∃ out, k ≤ n.length - o.length + 1 ∧ out ≤ n.length ∧ Zn.enclF o L n (n.length - o.length + 1) n.length = Zn.enclF o L n k out ∧ EncM B w ws zo vr n out W
theorem EncI.put {B w ws zo vr o L n K} (hL : ws.heap.size ≤ K) (hB : B ≤ ws.heap.size) (k : Nat) (A : World) (r : Loop) (ob : Obj) (h : EncI B w ws zo vr o L n k A) (hr : A.heap[K]? = some (.loop r)) : EncI B w ws zo vr o L n k (A.putObj K ob) := by
  obtain ⟨out, h1, h2, h3, h4⟩ := h
  exact ⟨out, h1, h2, h3, h4.put hL hB hr ob⟩
def EncX (B : Nat) (w ws : World) (zo vr : Value) (n : Zn.Nam) (res : Nat) (c : Code) (W : World) : Prop := c = .exit 0 ∧ res ≤ n.length ∧ EncM B w ws zo vr n res W
theorem EncX.put {B w ws zo vr n res K} (hL : ws.heap.size ≤ K) (hB : B ≤ ws.heap.size) (c : Code) (A : World) (r : Loop) (ob : Obj) (h : EncX B w ws zo vr n res c A) (hr : A.heap[K]? = some (.loop r)) : EncX B w ws zo vr n res c (A.putObj K ob) :=
  ⟨h.1, h.2.1, h.2.2.put hL hB hr ob⟩
theorem Zn.encl_not {o n : Zn.Nam} {L : List Rc.PRec} (h : Nm.under n o = false) : Zn.encl o L n = [] := by unfold Zn.encl; rw [if_neg (by rw [h]; exact Bool.false_ne_true)]
theorem Zn.encl_is {o n : Zn.Nam} {L : List Rc.PRec} (h : Nm.under n o = true) : Zn.encl o L n = n.drop (Zn.enclF o L n (n.length - o.length + 1) n.length) := by unfold Zn.encl; rw [if_pos h]
theorem Zn.enclF_hit {o n : Zn.Nam} {L : List Rc.PRec} {k out : Nat} (h : Zn.exi o L (n.drop k) = true) : Zn.enclF o L n (k + 1) out = Zn.enclF o L n k k := by rw [Zn.enclF, if_pos h]
theorem Zn.enclF_miss {o n : Zn.Nam} {L : List Rc.PRec} {k out : Nat} (h : Zn.exi o L (n.drop k) = false) : Zn.enclF o L n (k + 1) out = out := by rw [Zn.enclF, if_neg (by rw [h]; exact Bool.false_ne_true)]
set_option maxHeartbeats 2000000 in
theorem zEncloser_any {w w0 : World} (zo vr vn : Value) (l : List (El w)) (o n : List (List UInt8)) (hb0 : Below w.heap.size w w0) (hv : RecsRd vr (l.map (·.1)) w0) (na : l.length ≤ 1000) (ho : Rd zo o w0) (no : NB o) (hn : Rd vn n w0) (nn : NB n) :
    Calls Tryz.prog 25 #[.agg #[zo, vr], vn] w0 (RdOf (Zn.encl o (plE l) n) w0) := by
  obtain ⟨oo, co, rfl, _, _⟩ := ho.form
  obtain ⟨on, cn, rfl, _, _⟩ := hn.form
  obtain ⟨ov, cv, rfl⟩ : ∃ o cap, vr = .slice o l.length cap := by obtain ⟨_, o, cap, h, _⟩ := hv; exact ⟨o, cap, by rw [h, List.length_map]⟩
  obtain ⟨W3, hW3⟩ : ∃ W3, ((w0.alloc (.cells #[.slice oo o.length co, .slice ov l.length cv] 29)).alloc (.cells #[] 9)).alloc (.cells #[.slice none 0 0] 23) = W3 := ⟨_, rfl⟩
  have hbW : Below w0.heap.size w0 W3 := by
    subst hW3; exact (((Below.refl _ _).alloc (Nat.le_refl _) _).alloc (by simp) _).alloc (by simp; omega) _
  have b0 : Blk w0.heap.size #[.slice oo o.length co, .slice ov l.length cv] 29 W3 := by
    subst hW3; exact ((Blk.new w0 _ _).alloc _).alloc _
  have b2 : Box (w0.heap.size + 2) 23 (.slice none 0 0) W3 := by
    subst hW3
    have := Box.new ((w0.alloc (.cells #[.slice oo o.length co, .slice ov l.length cv] 29)).alloc (.cells #[] 9)) 23 (.slice none 0 0)
    rwa [World.size_alloc, World.size_alloc] at this
  have s3 : W3.heap.size = w0.heap.size + 3 := by subst hW3; simp
  have HB := Lib.hid hbW
  have B0 := Lib.hid b0
  have B2 := Lib.hid b2
  have HN := Lib.hid hn
  have HO := Lib.hid ho
  have HB0 := Lib.hid hb0
  have HV := Lib.hid hv
  have NN := Lib.hid nn
  have NO := Lib.hid no
  have ln : (n.length : Int) ≤ 1000 := by have := nn.1; omega
  have lo : (o.length : Int) ≤ 1000 := by have := no.1; omega
  have hr0 : Rd (.slice (some ⟨w0.heap.size + 1, 0, none⟩) 0 0) [] W3 := Rd.empty _ _ rfl _
  have hf := b2.frozen
  have hcc := b2.cell
  clear hv hn ho nn no hb0 b0 b2
  obtain ⟨W4, hW4⟩ : ∃ W4, W3.setCell ⟨w0.heap.size + 2, 0, none⟩ (.slice (some ⟨w0.heap.size + 1, 0, none⟩) 0 0) = W4 := ⟨_, rfl⟩
  have hbW4 : Below w0.heap.size w0 W4 := by subst hW4; exact hbW.setCell (p := ⟨w0.heap.size + 2, 0, none⟩) (by simp) _
  have B04 : Hid (Blk w0.heap.size #[.slice oo o.length co, .slice ov l.length cv] 29 W4) := by subst hW4; exact B0.out.set (by omega) _
  have B24 : Hid (Box (w0.heap.size + 2) 23 (.slice (some ⟨w0.heap.size + 1, 0, none⟩) 0 0) W4) := by subst hW4; exact B2.out.set _
  have s4 : W4.heap.size = w0.heap.size + 3 := by subst hW4; simpa [World.setCell] using s3
  have c00 : W4.cell? ⟨w0.heap.size, 0, none⟩ = some _ := B04.out.cell 0
  have c01 : W4.cell? ⟨w0.heap.size, 1, none⟩ = some _ := B04.out.cell 1
  have HB4 := Lib.hid hbW4
  clear hr0 hbW hbW4
  rcases hu : Nm.under n o with _ | _
  · have HU := Lib.hid hu
    clear hu
    refine (callsIn_wide (n := 0)).1 ?_
    refine callsIn_of_wp_marks Tryz.func25 rfl trivial ?_ rfl
    simp only [Tryz.ntmps25, List.size_toArray, List.length_cons, List.length_nil, Nat.reduceAdd, Nat.reduceSub, Array.replicate_succ, Array.replicate_zero, List.push_toArray, List.append_toArray, List.nil_append, List.cons_append]
    gi_wp2_with (gi_at_call 38; refine (callsIn_wide.2 (nUnder_any _ _ n o _ (HN.out.below HB4.out) (HO.out.below HB4.out) NN.out NO.out)).mono ?_; rintro e w1 ⟨rfl, b1⟩; rw [HU.out]; have d2 := (B24.out.below b1).cell)
    refine leaveM rfl (results_tmp rfl _ _ _) ?_
    exact ⟨_, rfl, by rw [Zn.encl_not HU.out]; exact Rd.empty _ _ rfl _, below5 HB4.out b1⟩
  · have HU := Lib.hid hu
    have hle := Nm.under_le' hu
    have HEI := Lib.hid (Zn.encl_is (L := plE l) hu)
    clear hu
    refine (callsIn_wide (n := 0)).1 ?_
    refine callsIn_of_wp_marks Tryz.func25 rfl trivial ?_ rfl
    simp only [Tryz.ntmps25, List.size_toArray, List.length_cons, List.length_nil, Nat.reduceAdd, Nat.reduceSub, Array.replicate_succ, Array.replicate_zero, List.push_toArray, List.append_toArray, List.nil_append, List.cons_append]
    gi_wp2_with (gi_at_call 38; refine (callsIn_wide.2 (nUnder_any _ _ n o _ (HN.out.below HB4.out) (HO.out.below HB4.out) NN.out NO.out)).mono ?_; rintro e w1 ⟨rfl, b1⟩; rw [HU.out]; have d00 : w1.cell? ⟨w0.heap.size, 0, none⟩ = some _ := (B04.out.below b1).cell 0; have d01 : w1.cell? ⟨w0.heap.size, 1, none⟩ = some _ := (B04.out.below b1).cell 1)
    gi_wp2_with (gi_at_call 52; refine (callsIn_wide.2 (down_any _ _ _ _ _ _)).mono ?_; rintro e ws ⟨rfl, hws⟩)
    have hb2 : Below w1.heap.size w1 ws := by rw [← hws]; exact ((Below.refl _ _).alloc (Nat.le_refl _) _).alloc (by simp) _
    have ss : ws.heap.size = w1.heap.size + 2 := by rw [← hws]; simp
    have hcn : ws.cell? ⟨w1.heap.size + 1, 0, none⟩ = some (.slice on n.length cn) := by
      rw [← hws]
      have := (Blk.new (w1.alloc (.cells #[.slice oo o.length co, .slice ov l.length cv] 29)) #[.slice on n.length cn] 23).cell 0
      rwa [World.size_alloc] at this
    have hcz : ws.cell? ⟨w1.heap.size, 0, none⟩ = some (.slice oo o.length co) := by rw [← hws]; exact ((Blk.new w1 _ _).alloc _).cell 0
    have hbs : Below W4.heap.size W4 ws := b1.trans (hb2.mono b1.size)
    have hs0 : w0.heap.size + 3 ≤ w1.heap.size := by have := b1.size; omega
    have hs1 : w0.heap.size + 3 ≤ ws.heap.size := by omega
    have hM0 : EncM w0.heap.size w0 ws (.slice oo o.length co) (.slice ov l.length cv) n n.length ws :=
      ⟨B04.out.below hbs, ⟨_, _, by rw [Nat.sub_self]; exact B24.out.below hbs, by rw [Nat.sub_self, List.drop_length]; exact Rd.empty _ _ rfl _⟩, keepS.refl _ _, below5 HB4.out hbs, Nat.le_refl _⟩
    have hnl : n.length ≤ 1000 := NN.out.1
    clear hws hb2 d00 d01 c00 c01 s3 hW3 hbs b1 hW4 s4 hf hcc
    refine rf_outer rfl (enters_of Tryz.func104 (by kernel_rfl) rfl) (down1_iter (fun b => b < ws.heap.size ∧ b ≠ w0.heap.size + 2) w0 ws (w1.heap.size + 1) w1.heap.size (by constructor <;> omega) (by constructor <;> omega) on oo cn co n o hcn hcz HN.out hnl hle)
      (fun A B h => by subst h; exact KeepsOthers.refl _) (fun A B C h k => keepS.trans h k) (fun A ob => keepS.put (fun e => by omega) A ob)
      (fun _ _ _ _ h => by obtain ⟨_, _, _, _, h, _⟩ := h; subst h; rfl)
      (EncI w0.heap.size w0 ws (.slice oo o.length co) (.slice ov l.length cv) o (plE l) n)
      (EncX w0.heap.size w0 ws (.slice oo o.length co) (.slice ov l.length cv) n (Zn.enclF o (plE l) n (n.length - o.length + 1) n.length))
      (fun _ _ _ h e => by subst e; exact h) (fun _ _ _ h e => by subst e; exact h)
      (EncI.put (by omega) (by omega)) (EncX.put (by omega) (by omega))
      (fun r => ⟨n.length, Nat.le_refl _, Nat.le_refl _, rfl, ?start⟩) (fun r => ?pre) ?round ?done ?stop
    case start => exact hM0.on (((Below.refl _ _).alloc (Nat.le_refl _) _).alloc (by simp) _) (by omega)
    case pre => exact keepS.of_below (((Below.refl _ _).alloc (Nat.le_refl _) _).alloc (by simp) _) (fun b h => h.1)
    case round =>
      rintro lp k k' v W hI ⟨rfl, hk', ox, cx, rfl, hx⟩
      gi_wp2
      refine rfNext_same (keepS.refl _ _) hI (EncI.put (K := ws.heap.size + 1) (by omega) (by omega)) ?_
      clear hI hM0
      rintro W r rfl hr ⟨out, h1, ho, h2, hM⟩
      have hxl : (n.drop k').length = n.length - k' := by simp
      obtain ⟨m, hm⟩ : ∃ m, n.length - k' = m := ⟨_, rfl⟩
      rw [hm] at hx hxl ⊢
      obtain ⟨x, hxd⟩ : ∃ x, n.drop k' = x := ⟨_, rfl⟩
      have NX := Lib.hid (show NB x by rw [← hxd]; exact NN.out.drop k')
      have HX := Lib.hid (show Rd (.slice ox m cx) x W by rw [← hxd]; exact hx.below hM.below)
      have HM := Lib.hid hM
      have H2 := Lib.hid h2
      have HXD := Lib.hid hxd
      have HMD := Lib.hid hm
      have hm1 : (m : Int) ≤ 1000 := by omega
      have c00 : W.cell? ⟨w0.heap.size, 0, none⟩ = some _ := hM.zb.cell 0
      have c01 : W.cell? ⟨w0.heap.size, 1, none⟩ = some _ := hM.zb.cell 1
      have hsz := hM.size
      have HC := Lib.hid (zExists_any (.slice oo o.length co) (.slice ov l.length cv) (.slice ox m cx) l o x (below5 HB0.out HM.out.below) (HV.out.kept HM.out.below) na (HO.out.below HM.out.below) NO.out HX.out NX.out)
      clear hM h2 hx hr hxl hm hxd
      rcases hh : Zn.exi o (plE l) x with _ | _
      · have HH := Lib.hid hh
        clear hh
        gi_wp2_with fail
        refine (CallsIn.inRound _ (callsIn_wide.2 HC.out)).mono ?_
        rintro e W2 ⟨rfl, bb⟩
        rw [HH.out]
        gi_wp2_with fail
        refine ⟨below_keepsOthers bb, rfl, ?_, ?_⟩
        · rw [H2.out, Zn.enclF_miss (by rw [HXD.out]; exact HH.out)]; exact ho
        · rw [H2.out, Zn.enclF_miss (by rw [HXD.out]; exact HH.out)]; exact HM.out.on bb (by omega)
      · have HH := Lib.hid hh
        clear hh
        gi_wp2_with fail
        refine (CallsIn.inRound _ (callsIn_wide.2 HC.out)).mono ?_
        rintro e W2 ⟨rfl, bb⟩
        rw [HH.out]
        have hM2 := HM.out.on bb (by omega)
        obtain ⟨o2, c2, ob2, rd2⟩ := hM2.ob
        have hx1 := ob2.frozen
        have hy1 := ob2.cell
        have HX2 := Lib.hid (HX.out.below bb)
        have HM2 := Lib.hid hM2
        have OB2 := Lib.hid ob2
        have HBB := Lib.hid bb
        clear hM2 ob2 rd2 bb
        gi_wp2_with fail
        have hM2 := HM2.out
        refine ⟨(below_keepsOthers HBB.out).trans (KeepsOthers.setCell _ _ _), (keepS.of_below HBB.out (fun b h => by omega)).trans (keepS.set (fun e => e.2 rfl) _ _), k', by omega, hk', ?_, ?_⟩
        · rw [H2.out, Zn.enclF_hit (by rw [HXD.out]; exact HH.out)]
        · refine ⟨hM2.zb.set (by omega) _, ⟨ox, cx, ?_, ?_⟩, hM2.kp.trans (keepS.set (fun e => e.2 rfl) _ _), hM2.below.setCell (p := ⟨w0.heap.size + 2, 0, none⟩) (by simp) _, by simpa [World.setCell] using hM2.size⟩
          · rw [HMD.out]; exact OB2.out.set _
          · rw [HMD.out, HXD.out]; exact HX2.out.setBox OB2.out (fun s h => by cases h) _
    case done =>
      rintro k W rfl ⟨out, _, ho, h2, hM⟩ hKd
      obtain ⟨o2, c2, ob2, rd2⟩ := hM.ob
      have hy1 := ob2.cell
      have H2 := Lib.hid h2
      have HM := Lib.hid hM
      have HKD := Lib.hid hKd
      have RD2 := Lib.hid rd2
      have NX := Lib.hid (NN.out.drop out)
      clear h2 hM hM0 hKd ob2 rd2
      gi_wp2_with fail
      refine (callsIn_wide.2 (clone_any _ (n.drop out) _ RD2.out NX.out)).mono ?_
      rintro e W4 ⟨v4, rfl, hr4, b4⟩
      gi_wp2_with fail
      refine (callsIn_wide.2 (clip_any _ (n.drop out) _ hr4.rdOf NX.out)).mono ?_
      rintro e W5 ⟨v5, rfl, hr5, rfl⟩
      have hM := HM.out
      have hK5 := (b4.block _ (Array.getElem?_eq_some_iff.1 HKD.out).1).trans HKD.out
      rw [ss] at hK5
      gi_wp2_with fail
      refine leaveD rfl hK5 (results_tmp rfl _ _ _) ?_
      refine ⟨_, rfl, ?_, below_putD (hM.below.trans (b4.mono (by have := hM.size; omega))) (by omega) (by have := hM.size; have := b4.size; omega) _⟩
      rw [HEI.out, H2.out]
      exact hr5.cells_kept (CellsKept.putD hK5 _)
    case stop =>
      rintro c W ⟨rfl, ho, hM⟩ hKd
      obtain ⟨o2, c2, ob2, rd2⟩ := hM.ob
      obtain ⟨out, hout⟩ : ∃ out, Zn.enclF o (plE l) n (n.length - o.length + 1) n.length = out := ⟨_, rfl⟩
      rw [hout] at ob2 rd2 ho
      have hy1 := ob2.cell
      have H2 := Lib.hid hout
      have HM := Lib.hid hM
      have HKD := Lib.hid hKd
      have RD2 := Lib.hid rd2
      have NX := Lib.hid (NN.out.drop out)
      clear hout hM hM0 hKd ob2 rd2
      gi_wp2_with fail
      refine (callsIn_wide.2 (clone_any _ (n.drop out) _ RD2.out NX.out)).mono ?_
      rintro e W4 ⟨v4, rfl, hr4, b4⟩
      gi_wp2_with fail
      refine (callsIn_wide.2 (clip_any _ (n.drop out) _ hr4.rdOf NX.out)).mono ?_
      rintro e W5 ⟨v5, rfl, hr5, rfl⟩
      have hM := HM.out
      have hK5 := (b4.block _ (Array.getElem?_eq_some_iff.1 HKD.out).1).trans HKD.out
      rw [ss] at hK5
      gi_wp2_with fail
      refine leaveD rfl hK5 (results_tmp rfl _ _ _) ?_
      refine ⟨_, rfl, ?_, below_putD (hM.below.trans (b4.mono (by have := hM.size; omega))) (by omega) (by have := hM.size; have := b4.size; omega) _⟩
      rw [HEI.out, H2.out]
      exact hr5.cells_kept (CellsKept.putD hK5 _)
end Go.Proofs.YtneghhbclefmoaaGreat
end
section
/- Zones: the star below what encloses a name. -/
namespace Go.Proofs.YtneghhbclefmoaaGreat
open Go.RowKit Go.Shelf Go.Sort
set_option maxRecDepth 100000

set_option maxHeartbeats 1000000 in
theorem srcCb_any {w : World} (x : El w) (bp : Addr) (vn : Value) (n : List (List UInt8)) (wr : World) (hb : Below w.heap.size w wr) (hc : wr.cell? bp = some vn) (hn : Rd vn n wr) (nn : NB n) :
    Calls Tryz.prog 60 #[.agg (encE x).toArray, .pointer (some bp)] wr (Gives (.bool (Nm.same x.1.2.owner n)) wr) := by
  obtain ⟨vo, ds, h0, ho, an, am, at', ar, h1, _⟩ := x.2.1
  have ex : encE x = [vo, .int .u32 (x.1.2.ttl : Int), .int .i64 x.1.2.type, an, am, at', ar] := by show x.1.1 = _; rw [h0, h1]
  rw [ex]
  have HO := Lib.hid (ho.below hb)
  have HN := Lib.hid hn
  have NO := Lib.hid x.2.2.owner
  have hlt := cell_lt hc
  have hc' : ∀ o, (wr.alloc o).cell? bp = some vn := fun o => (((Below.refl wr.heap.size wr).alloc (Nat.le_refl _) o).cell hlt).trans hc
  clear ho hn hb ex h0 h1
  go_enter Tryz.func60, Tryz.ntmps60
  go_wp2_with fail
  refine (nSame_any _ _ _ _ _ (HO.out.below ((Below.refl _ _).alloc (Nat.le_refl _) _)) (HN.out.below ((Below.refl _ _).alloc (Nat.le_refl _) _)) NO.out nn).mono ?_
  rintro e w1 ⟨rfl, b1⟩
  have hb1 := ((Below.refl wr.heap.size wr).alloc (Nat.le_refl _) _).trans (b1.mono (by simp))
  go_wp2_with fail
  go_ret
  exact ⟨rfl, hb1⟩
theorem eg_srcCb (args : Array Value) (w : World) : (callFunc 60 args).run Tryz.prog w = .ok (.enter 60 args) w := by simp [go_sem]
def SrcR (o : Zn.Nam) (L : List Rc.PRec) (n : Zn.Nam) (w : World) (e : Ending) (w' : World) : Prop :=
  ∃ v, e = .returned (.tuple #[v, .bool (Zn.isSrc o L n)]) ∧ Rd v (Zn.src o L n) w' ∧ Below w.heap.size w w'
theorem Zn.src_no {o n : Zn.Nam} {L : List Rc.PRec} (h : Zn.isSrc o L n = false) : Zn.src o L n = [] := by unfold Zn.src; rw [if_neg (by rw [h]; exact Bool.false_ne_true)]
theorem Zn.src_is {o n : Zn.Nam} {L : List Rc.PRec} (h : Zn.isSrc o L n = true) : Zn.src o L n = Zn.star o L n := by unfold Zn.src; rw [if_pos h]
theorem Zn.encl_suf (o : Zn.Nam) (L : List Rc.PRec) (n : Zn.Nam) : ∃ k, Zn.encl o L n = n.drop k := by
  unfold Zn.encl
  split
  · exact ⟨_, rfl⟩
  · exact ⟨n.length, by simp⟩
theorem Zn.encl_nb {o n : Zn.Nam} {L : List Rc.PRec} (h : NB n) : NB (Zn.encl o L n) := by
  obtain ⟨k, e⟩ := Zn.encl_suf o L n
  rw [e]; exact h.drop k
theorem Zn.star_nb {o n : Zn.Nam} {L : List Rc.PRec} (h : NB n) (hl : n.length < 1000) : NB (Zn.star o L n) := by
  have h1 := Zn.encl_nb (o := o) (L := L) h
  have h2 := Zn.encl_len o L n
  exact ⟨by simp [Zn.star]; omega, fun x hx => by
    rcases List.mem_cons.1 hx with rfl | hx
    · simp
    · exact h1.2 x hx⟩
set_option maxHeartbeats 1000000 in
theorem zSource_any {w w0 : World} (zo vr vn : Value) (l : List (El w)) (o n : List (List UInt8)) (hb0 : Below w.heap.size w w0) (hv : RecsRd vr (l.map (·.1)) w0) (na : l.length ≤ 1000) (ho : Rd zo o w0) (no : NB o) (hn : Rd vn n w0) (nn : NB n) (hl : n.length < 1000) :
    Calls Tryz.prog 19 #[.agg #[zo, vr], vn] w0 (SrcR o (plE l) n w0) := by
  obtain ⟨oo, co, rfl, _, _⟩ := ho.form
  obtain ⟨on, cn, rfl, _, _⟩ := hn.form
  obtain ⟨ov, cv, rfl⟩ : ∃ o cap, vr = .slice o l.length cap := by obtain ⟨_, o, cap, h, _⟩ := hv; exact ⟨o, cap, by rw [h, List.length_map]⟩
  obtain ⟨W1, hW1⟩ : ∃ W1, w0.alloc (.cells #[.slice oo o.length co, .slice ov l.length cv] 29) = W1 := ⟨_, rfl⟩
  have hbW : Below w0.heap.size w0 W1 := by subst hW1; exact (Below.refl _ _).alloc (Nat.le_refl _) _
  have b0 : Blk w0.heap.size #[.slice oo o.length co, .slice ov l.length cv] 29 W1 := by subst hW1; exact Blk.new w0 _ _
  have c00 : W1.cell? ⟨w0.heap.size, 0, none⟩ = some _ := b0.cell 0
  have c01 : W1.cell? ⟨w0.heap.size, 1, none⟩ = some _ := b0.cell 1
  have HB := Lib.hid hbW
  have B0 := Lib.hid b0
  have HB0 := Lib.hid hb0
  have HV := Lib.hid hv
  have HC := Lib.hid (zEncloser_any (w0 := W1) (.slice oo o.length co) (.slice ov l.length cv) (.slice on n.length cn) l o n (below5 hb0 hbW) (hv.kept hbW) na (ho.below hbW) no (hn.below hbW) nn)
  have NE := Lib.hid (Zn.encl_nb (o := o) (L := plE l) nn)
  have NS := Lib.hid (Zn.star_nb (o := o) (L := plE l) nn hl)
  have hln : (Zn.star o (plE l) n).length ≤ 1000 := (Zn.star_nb (o := o) (L := plE l) nn hl).1
  clear hv hn ho nn no hb0 hbW b0 hl
  obtain ⟨bz, hz⟩ : ∃ b, Zn.isSrc o (plE l) n = b := ⟨_, rfl⟩
  have HZ := Lib.hid hz
  clear hz
  go_enter Tryz.func19, Tryz.ntmps19
  go_wp2_with fail
  refine HC.out.mono ?_
  rintro e w1 ⟨v1, rfl, r1, b1⟩
  have hb1 := below5 HB.out b1
  have hz1 := B0.out.below b1
  clear b1
  go_wp2_with fail
  refine (nChild_any [42] _ _ _ r1 NE.out).mono ?_
  rintro e w2 ⟨v2, rfl, r2, b2⟩
  replace r2 : Rd v2 (Zn.star o (plE l) n) w2 := r2
  obtain ⟨st, hst⟩ : ∃ st, Zn.star o (plE l) n = st := ⟨_, rfl⟩
  have HST := Lib.hid hst
  rw [hst] at r2 hln
  obtain ⟨o2, c2, rfl, _, _⟩ := r2.form
  have hb2 := below5 hb1 b2
  have hz2 := hz1.below b2
  obtain ⟨W3, hW3⟩ : ∃ W3, w2.alloc (.cells #[.slice none 0 0] 23) = W3 := ⟨_, rfl⟩
  have bx : Box w2.heap.size 23 (.slice none 0 0) W3 := by subst hW3; exact Box.new w2 _ _
  have hb3 : Below w2.heap.size w2 W3 := by subst hW3; exact (Below.refl _ _).alloc (Nat.le_refl _) _
  have hz3 := hz2.below hb3
  obtain ⟨W4, hW4⟩ : ∃ W4, W3.setCell ⟨w2.heap.size, 0, none⟩ (.slice o2 st.length c2) = W4 := ⟨_, rfl⟩
  have hb4 : Below w2.heap.size w2 W4 := by subst hW4; exact hb3.setCell (p := ⟨w2.heap.size, 0, none⟩) (Nat.le_refl _) _
  have hx4 : Box w2.heap.size 23 (.slice o2 st.length c2) W4 := by subst hW4; exact bx.set _
  have e00 : W4.cell? ⟨w0.heap.size, 0, none⟩ = some _ := (hz2.below hb4).cell 0
  have e01 : W4.cell? ⟨w0.heap.size, 1, none⟩ = some _ := (hz2.below hb4).cell 1
  have exf := bx.frozen
  have exc := bx.cell
  have hbw4 := below5 hb2 hb4
  have HCF := Lib.hid (containsRec_any (w0 := W4) (.slice ov l.length cv) l (fun r => Nm.same r.owner st) 60 #[.pointer (some ⟨w2.heap.size, 0, none⟩)] eg_srcCb (below5 HB0.out hbw4) (HV.out.kept hbw4) na
    (fun wr hwr x _ => srcCb_any x ⟨w2.heap.size, 0, none⟩ _ st wr (below5 (below5 HB0.out hbw4) hwr) ((hx4.below hwr).cell) ((r2.below hb4).below hwr) (by rw [← hst]; exact NS.out)))
  have HIS := Lib.hid (show ((plE l).any fun r => Nm.same r.owner st) = bz by rw [← HZ.out, ← hst]; rfl)
  have HX4 := Lib.hid hx4
  have HBW := Lib.hid hbw4
  have R2 := Lib.hid (r2.below hb4)
  clear r1 r2 hb1 hb2 hb3 hb4 hz1 hz2 hz3 hx4 b2 hst bx hbw4 c00 c01
  go_wp2_with fail
  refine HCF.out.mono ?_
  rintro e w5 ⟨rfl, b5⟩
  rw [HIS.out]
  have f5 := (HX4.out.below b5).cell
  have hb5 := Lib.hid (below5 HBW.out b5)
  have r5 := Lib.hid (R2.out.below b5)
  clear b5
  cases bz with
  | true =>
    go_wp2_with fail
    refine bodyPost_ret (results_tmp2 rfl _ _ _) rfl ?_
    exact ⟨_, by rw [HZ.out]; rfl, by rw [Zn.src_is HZ.out, HST.out]; exact r5.out, hb5.out⟩
  | false =>
    go_wp2_with fail
    refine bodyPost_ret (results_tmp2 rfl _ _ _) rfl ?_
    exact ⟨_, by rw [HZ.out]; rfl, by rw [Zn.src_no HZ.out]; exact Rd.nil _, hb5.out⟩
end Go.Proofs.YtneghhbclefmoaaGreat
end
