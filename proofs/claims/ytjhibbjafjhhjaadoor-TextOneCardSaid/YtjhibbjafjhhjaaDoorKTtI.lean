/- The walk of TextAny. -/
import Derived.Test.YtjhibbjafjhhjaaDoorKTtG
import Derived.Test.YtjhibbjafjhhjaaDoorKTtH
import Derived.Test.YtjhibbjafjhhjaaDoorKTtK
import Derived.Test.YtjhibbjafjhhjaaDoorKTtO
import Derived.Test.YtjhibbjafjhhjaaDoorKReg
namespace Go.Proofs.YtjhibbjafjhhjaaDoor
open Go.RowKit Go.Shelf
set_option maxRecDepth 100000
theorem Blk.setAt {b cs t W} (h : Blk b cs t W) (i : Nat) (u : Value) : Blk b (cs.setIfInBounds i u) t (W.setCell ⟨b, i, none⟩ u) := by
 unfold Blk at *; simp [World.setCell, Array.getElem?_modify, h]
def ptrs (bs : List Nat) : List (List Value) := bs.map fun b => [.pointer (some ⟨b, 0, none⟩)]
structure TaM (w : World) (RB : Nat) (vf vg vs : Value) (st : Int) (l : List Tt.Er) (k : Nat) (ve : Value) (A : World) : Prop where
 row : ∃ bs : List Nat, bs.length = l.length /\ Row (fun g => RB < g) 33 1 ve k (ptrs bs).flatten A /\ ∀ j (h : j < bs.length) (h' : j < l.length), Blk bs[j] #[S l[j].path, .int .i64 l[j].line, .int .i64 l[j].err] 32 A
 len : l.length = k
 rb : Blk RB #[ve, vf, vg, vs, .int .i64 st] 30 A
 below : Below w.heap.size w A
theorem TaM.on {w : World} {RB : Nat} {vf vg vs : Value} {st : Int} {l : List Tt.Er} {k : Nat} {ve : Value} {A B : World} (h : TaM w RB vf vg vs st l k ve A) (hb : Below A.heap.size A B) : TaM w RB vf vg vs st l k ve B := by
 obtain ⟨⟨bs, h1, h2, h3⟩, h4, h5, h6⟩ := h
 exact ⟨⟨bs, h1, h2.below hb, fun j hj hj' => (h3 j hj hj').below hb⟩, h4, h5.below hb, below5 h6 hb⟩
theorem ptrs_one (bs : List Nat) : ∀ x ∈ ptrs bs, x.length = 1 /\ ∀ u ∈ x, u.oneCell' = true := fun x hx => by
 obtain ⟨b, _, rfl⟩ := List.mem_map.1 hx
 exact ⟨rfl, fun u hu => by rw [List.mem_singleton] at hu; subst hu; rfl⟩
theorem TaM.read {w : World} {RB : Nat} {vf vg vs : Value} {st : Int} {l : List Tt.Er} {k : Nat} {ve : Value} {A : World} (h : TaM w RB vf vg vs st l k ve A) : LRd 1 encEr ve l A := by
 obtain ⟨⟨bs, h1, h2, h3⟩, h4, h5, h6⟩ := h
 have hl : (ptrs bs).length = k := by unfold ptrs; rw [List.length_map, h1, h4]
 rw [<- hl] at h2
 refine ⟨ptrs bs, h2.grd (ptrs_one bs), by rw [hl, h4], fun j hj hj' => ?_⟩
 have hjb : j < bs.length := by omega
 exact ⟨bs[j], by simp [ptrs], h3 j hjb hj⟩
theorem TaM.push {w : World} {RB : Nat} {vf vg vs : Value} {st : Int} {l : List Tt.Er} {k : Nat} {ve ve' : Value} {A B : World} (h : TaM w RB vf vg vs st l k ve A) {b : Nat} {x : Tt.Er} (hRB : w.heap.size <= RB) (hb : Blk b #[S x.path, .int .i64 x.line, .int .i64 x.err] 32 A)
  {bs : List Nat} (h1 : bs.length = l.length) (h2 : Row (fun g => RB < g) 33 1 ve k (ptrs bs).flatten A) (h3 : ∀ j (h : j < bs.length) (h' : j < l.length), Blk bs[j] #[S l[j].path, .int .i64 l[j].line, .int .i64 l[j].err] 32 A)
  (hr2 : Row (fun g => RB < g) 33 1 ve' (k + 1) (ptrs bs ++ [[Value.pointer (some ⟨b, 0, none⟩)]]).flatten B) (hg : A.grownBy B ve.ownBlock) :
  TaM w RB vf vg vs st (l ++ [x]) (k + 1) ve' (B.setCell ⟨RB, 0, none⟩ ve') := by
 obtain ⟨_, h4, h5, h6⟩ := h
 have hty : ∀ {c : Nat} {cs : Array Value}, Blk c cs 32 A -> Blk c cs 32 (B.setCell ⟨RB, 0, none⟩ ve') := fun {c cs} hc => by
  have h7 := hc.rowKeep h2 hg (by decide)
  refine (Below.heap_setCell _ _ _ _ (fun e => ?_)).trans h7
  have e : c = RB := e
  subst e
  unfold Blk at hc h5
  rw [hc] at h5; cases h5
 have h5B : Blk RB #[ve, vf, vg, vs, .int .i64 st] 30 B := h5.rowKeep h2 hg (by decide)
 refine ⟨⟨bs ++ [b], by simp [h1], ?_, fun j hj hj' => ?_⟩, by simp [h4], ?_, Below.setCell (p := ⟨RB, 0, none⟩) (h6.grown hg h6.size (fun g hg => by have := h2.2 g hg; omega)) hRB _⟩
 ·have h8 := Row.setOther (b := RB) (o := 0) hr2 (by omega) ve'
  unfold ptrs at h8 ⊢
  rw [List.map_append]; exact h8
 ·by_cases hlt : j < bs.length
  ·have hlt' : j < l.length := by omega
   rw [List.getElem_append_left hlt]
   simp only [List.getElem_append_left hlt']
   exact hty (h3 j hlt hlt')
  ·have e : j = bs.length := by simp at hj; omega
   subst e
   rw [List.getElem_append_right (Nat.le_refl _)]
   simp only [h1, List.getElem_append_right (Nat.le_refl _), Nat.sub_self, List.getElem_cons_zero]
   exact hty hb
 ·have h9 := h5B.setAt 0 ve'
  exact h9
theorem info_ptr : (Tryd.prog.info? 33).map (fun i => (i.zero, i.size, i.bytes)) = some (some (.pointer none), 1, 8) := by kernel_rfl
def TrTe (w : World) (e : Ending) (w' : World) : Prop := e = .returned (.bool true) /\ Below w.heap.size w w'
set_option maxHeartbeats 16000000 in
theorem walkTextAny (ve : Value) (es : List Tt.Er) (vf : Value) (fs : List Tt.Fl) (vg : Value) (gs : List Tt.Eg) (vs : Value) (ss : List Tt.Se) (st : Int) (w : World) (he : LRd 3 encFt ve es w) (hf : LRd 3 encFl vf fs w) (hg : LRd 5 encEg vg gs w) (hs : LRd 4 encSe vs ss w) (_ : (Lit.int .i64 st).wf = true) (ht : Tab w) :
  Calls Tryd.prog 3 #[ve, vf, vg, vs, .int .i64 st] w (TrTe w) := by
 have HT := Lib.hid ht
 obtain ⟨oe, ce, rfl⟩ := he.form
 obtain ⟨of, cf, rfl⟩ := hf.form
 obtain ⟨og, cg, rfl⟩ := hg.form
 obtain ⟨os, cs, rfl⟩ := hs.form
 have HE := Lib.hid he
 have HF := Lib.hid hf
 have HG := Lib.hid hg
 have HS := Lib.hid hs
 obtain ⟨ne, hne⟩ : ∃ n, es.length = n := ⟨_, rfl⟩
 obtain ⟨nf, hnf⟩ : ∃ n, fs.length = n := ⟨_, rfl⟩
 obtain ⟨ng, hng⟩ : ∃ n, gs.length = n := ⟨_, rfl⟩
 obtain ⟨ns, hns⟩ : ∃ n, ss.length = n := ⟨_, rfl⟩
 rw [hne] at HE
 rw [hnf] at HF
 rw [hng] at HG
 rw [hns] at HS
 rw [hne, hnf, hng, hns]
 have HNE := Lib.hid hne
 clear ht he hf hg hs hne hnf hng hns
 refine (callsIn_wide (n := 0)).1 ?_
 refine callsIn_of_wp Tryd.func3 rfl trivial ?_ rfl
 simp only [Tryd.ntmps3, List.size_toArray, List.length_cons, List.length_nil, Nat.reduceAdd, Nat.reduceSub, Array.replicate_succ, Array.replicate_zero, List.push_toArray, List.append_toArray, List.nil_append, List.cons_append]
 gi_wp2_with fail
 refine (callsIn_wide.2 (known25_any w HT.out)).mono ?_
 rintro e w1 ⟨rfl, b1⟩
 have HB1 := Lib.hid b1
 have hM0 : TaM w w1.heap.size (.slice of nf cf) (.slice og ng cg) (.slice os ns cs) st [] 0 (.slice none 0 0) (w1.alloc (.cells #[.slice none 0 0, .slice of nf cf, .slice og ng cg, .slice os ns cs, .int .i64 st] 30)) :=
  ⟨⟨[], rfl, Row.nil _ _ _ _, fun j h => by simp at h⟩, rfl, Blk.new _ _ _, b1.alloc b1.size _⟩
 have HM := Lib.hid hM0
 have HWR : Hid (w.heap.size <= w1.heap.size) := b1.size
 clear b1 hM0
 gi_wp2_with fail
 obtain ⟨RB, hRB⟩ : ∃ b, w1.heap.size = b := ⟨_, rfl⟩
 obtain ⟨W0, hW0⟩ : ∃ x, w1.alloc (.cells #[.slice none 0 0, .slice of nf cf, .slice og ng cg, .slice os ns cs, .int .i64 st] 30) = x := ⟨_, rfl⟩
 rw [hW0] at HM ⊢
 rw [hRB] at HM HWR ⊢
 clear hW0 hRB
 gi_loopw [12] (fun v12 A => ∃ (k : Nat) (a3 : Option Addr) (c3 : Nat), k <= ne /\ k <= 20 /\ v12 = .int .i64 k /\ Hid (TaM w RB (.slice of nf cf) (.slice og ng cg) (.slice os ns cs) st (es.take k) k (.slice a3 k c3) A)) (fun v12 _ => ne - (intOf v12).toNat)
 case atStart => exact ⟨0, none, 0, Nat.zero_le _, by decide, rfl, HM⟩
 case round =>
  obtain ⟨k, a3, c3, hk, hk20, rfl, HT1⟩ := hrel
  clear HM
  have hkz : (k : Int) <= 20 := by omega
  have r0 : wr.cell? ⟨RB, 0, none⟩ = some (.slice a3 k c3) := HT1.out.rb.cell 0
  by_cases hgo : k < ne /\ k < 20
  case pos =>
   obtain ⟨hlt, hl2⟩ := hgo
   have hlz : (k : Int) < (ne : Int) := by omega
   have hlz2 : (k : Int) < 20 := by omega
   have hlen : k < es.length := by rw [HNE.out]; exact hlt
   obtain ⟨cs', z, henc, _, ⟨a, rfl, hz⟩, e0, e1⟩ := (HE.out.below (fun _ _ _ _ h _ => h) HT1.out.below).at (by decide) k hlen
   obtain ⟨x, hx⟩ : ∃ x, es[k] = x := ⟨_, rfl⟩
   rw [hx] at henc
   have HX := Lib.hid hx
   have henc : cs' = [S x.path, .int .i64 x.line, .int .i64 x.err] := henc
   subst henc
   obtain ⟨p, hp⟩ : ∃ p, x.path = p := ⟨_, rfl⟩
   obtain ⟨ln, hln⟩ : ∃ z, x.line = z := ⟨_, rfl⟩
   obtain ⟨er, her⟩ : ∃ z, x.err = z := ⟨_, rfl⟩
   rw [hp, hln, her] at e0 e1
   have e_1 := e1 1 (by decide) (by decide)
   have e_2 := e1 2 (by decide) (by decide)
   simp only [List.getElem?_cons_zero, List.getElem?_cons_succ] at e0 e_1 e_2
   have hz' : a.add (k * 3) = z := hz.symm
   have hfb := Blk.new wr #[S p, .int .i64 ln, .int .i64 er] 32
   have hfa : Below wr.heap.size wr (wr.alloc (.cells #[S p, .int .i64 ln, .int .i64 er] 32)) := (Below.refl _ _).alloc (Nat.le_refl _) _
   obtain ⟨Wf, hWf⟩ : ∃ x, wr.alloc (.cells #[S p, .int .i64 ln, .int .i64 er] 32) = x := ⟨_, rfl⟩
   obtain ⟨fb, hfb'⟩ : ∃ b, wr.heap.size = b := ⟨_, rfl⟩
   rw [hWf] at hfb
   rw [hWf] at hfa
   have hM2 := HT1.out.on hfa
   rw [hfb'] at hfb
   have hba : Below Wf.heap.size Wf (Wf.alloc (.cells #[.pointer (some ⟨fb, 0, none⟩)] 33)) := (Below.refl _ _).alloc (Nat.le_refl _) _
   have HM3 := Lib.hid (hM2.on hba)
   have HFB3 := Lib.hid (hfb.below hba)
   have HGN : Hid (GRd 1 (.slice (some ⟨Wf.heap.size, 0, none⟩) 1 1) [[.pointer (some ⟨fb, 0, none⟩)]] (Wf.alloc (.cells #[.pointer (some ⟨fb, 0, none⟩)] 33))) := GRd.new [.pointer (some ⟨fb, 0, none⟩)] rfl (by simp [Value.oneCell']) Wf 33
   have hsz : Wf.heap.size = fb + 1 := by rw [<- hWf, World.size_alloc, hfb']
   rw [hsz] at HGN
   have HSZ : Hid (RB < (Wf.alloc (.cells #[.pointer (some ⟨fb, 0, none⟩)] 33)).heap.size) := HM3.out.rb.lt
   have r0' : (wr.alloc (.cells #[S p, .int .i64 ln, .int .i64 er] 32)).cell? ⟨RB, 0, none⟩ = some (.slice a3 k c3) := by rw [hWf]; exact hM2.rb.cell 0
   have HPF := Lib.hid (And.intro hp (And.intro hln her))
   have HWf := Lib.hid hWf
   have HFB' := Lib.hid hfb'
   obtain ⟨bs, hbs1, hbs2, hbs3⟩ := id HM3.out.row
   have HBS3 := Lib.hid hbs3
   clear hbs3
   have HR3 := Lib.hid hbs2
   have HB3 := Lib.hid hbs1
   have HTK : Hid (es.take (k + 1) = es.take k ++ [x]) := by show _ = _; rw [List.take_succ_eq_append_getElem hlen, HX.out]
   clear hsz hfb hfa hWf hfb' hM2 hba hz e1 hx hp hln her hbs1 hbs2 henc
   gi_wp2_with (gi_at_builtin; rw [HWf.out, HFB'.out]; refine append_g (fun g => RB < g) 33 _ 1 8 info_ptr rfl (by decide) rfl _ _ _ Tryd.underlying28 rfl _ k (ptrs bs) (by rfl) HR3.out _ [[.pointer (some ⟨fb, 0, none⟩)]] (by rfl) HGN.out (by simp; omega) (by omega) HSZ.out ?_; intro v' w' hrow' hgr; obtain ⟨a4, c4, rfl⟩ := hrow'.form; have hrb' := HM3.out.rb.rowKeep HR3.out hgr (by decide); have c5 : w'.cell? ⟨RB, 0, none⟩ = some (.slice a3 k c3) := hrb'.cell 0; have z5 := hrb'.frozen 0; have HP := Lib.hid (HM3.out.push (x := x) (b := fb) (ve' := .slice a4 (k + 1) c4) HWR.out (by rw [HPF.out.1, HPF.out.2.1, HPF.out.2.2]; exact HFB3.out) HB3.out HR3.out HBS3.out hrow' hgr); clear hrb' hrow' hgr r0 r0' e0 e_1 e_2)
   exact ⟨⟨k + 1, a4, c4, hlt, by omega, by go_num, by rw [HTK.out]; exact HP⟩, by simp [intOf]; omega⟩
  case neg =>
   obtain ⟨rep, hrep⟩ : ∃ r, r = (⟨es.take k, fs, gs, ss, st⟩ : Tt.Rep) := ⟨_, rfl⟩
   have hst : rep.err = st := by rw [hrep]
   have hrd : RepRd (.slice a3 k c3) (.slice of nf cf) (.slice og ng cg) (.slice os ns cs) rep wr := by
    rw [hrep]
    exact ⟨HT1.out.read, HF.out.below stays_fl HT1.out.below, HG.out.below stays_eg HT1.out.below, HS.out.below stays_se HT1.out.below⟩
   have HRD := Lib.hid hrd
   have HFW : Hid (Calls Tryd.prog 7 #[.agg #[.slice a3 k c3, .slice of nf cf, .slice og ng cg, .slice os ns cs, .int .i64 st]] wr (Says rep.Ok wr)) := by rw [<- hst]; exact repFew_any _ _ _ _ rep wr hrd
   have HST := Lib.hid hst
   have HBW := Lib.hid HT1.out.below
   have HRB := Lib.hid HT1.out.rb
   have r1 : wr.cell? ⟨RB, 1, none⟩ = some (.slice of nf cf) := HT1.out.rb.cell 1
   have r2 : wr.cell? ⟨RB, 2, none⟩ = some (.slice og ng cg) := HT1.out.rb.cell 2
   have r3 : wr.cell? ⟨RB, 3, none⟩ = some (.slice os ns cs) := HT1.out.rb.cell 3
   have r4 : wr.cell? ⟨RB, 4, none⟩ = some (.int .i64 st) := HT1.out.rb.cell 4
   clear hrep hst hrd
   have y : ((k : Int) < (ne : Int) /\ ¬ (k : Int) < 20) \/ ¬ (k : Int) < (ne : Int) := by omega
   rcases y with ⟨y1, y2⟩ | y1
   ·gi_wp2_with fail
    refine (callsIn_wide.2 HFW.out).mono ?_
    rintro e w2 ⟨b, rfl, hok, b2⟩
    have HB2 := Lib.hid (below5 HBW.out b2)
    by_cases hbt : b = true
    case neg =>
     obtain rfl : b = false := by simpa using hbt
     clear hok hbt r0 r1 r2 r3 r4
     gi_wp2_with fail
     go_ret
     exact ⟨rfl, HB2.out⟩
    case pos =>
    subst hbt
    have HOK := Lib.hid (hok rfl)
    have HRD2 := Lib.hid (HRD.out.below b2)
    have HRB2 := Lib.hid (HRB.out.below b2)
    clear hok b2 r0 r1 r2 r3 r4
    have r0 : w2.cell? ⟨RB, 0, none⟩ = some (.slice a3 k c3) := HRB2.out.cell 0
    have r1 : w2.cell? ⟨RB, 1, none⟩ = some (.slice of nf cf) := HRB2.out.cell 1
    have r2 : w2.cell? ⟨RB, 2, none⟩ = some (.slice og ng cg) := HRB2.out.cell 2
    have r3 : w2.cell? ⟨RB, 3, none⟩ = some (.slice os ns cs) := HRB2.out.cell 3
    have r4 : w2.cell? ⟨RB, 4, none⟩ = some (.int .i64 st) := HRB2.out.cell 4
    gi_wp2_with fail
    have hli := lines_any _ _ _ _ rep w2 HRD2.out HOK.out (HT.out.below HB2.out)
    rw [HST.out] at hli
    refine (callsIn_wide.2 hli).mono ?_
    rintro e w3 ⟨o, rfl, hl3, _, b3⟩
    have HB3 := Lib.hid (below5 HB2.out b3)
    have HRD3 := Lib.hid (HRD2.out.below b3)
    have HRB3 := Lib.hid (HRB2.out.below b3)
    have HL3 := Lib.hid hl3
    clear hli hl3 b3 r0 r1 r2 r3 r4
    have r0 : w3.cell? ⟨RB, 0, none⟩ = some (.slice a3 k c3) := HRB3.out.cell 0
    have r1 : w3.cell? ⟨RB, 1, none⟩ = some (.slice of nf cf) := HRB3.out.cell 1
    have r2 : w3.cell? ⟨RB, 2, none⟩ = some (.slice og ng cg) := HRB3.out.cell 2
    have r3 : w3.cell? ⟨RB, 3, none⟩ = some (.slice os ns cs) := HRB3.out.cell 3
    have r4 : w3.cell? ⟨RB, 4, none⟩ = some (.int .i64 st) := HRB3.out.cell 4
    gi_wp2_with fail
    have hli := refLines_any _ _ _ _ rep w3 HRD3.out HOK.out
    rw [HST.out] at hli
    refine (callsIn_wide.2 hli).mono ?_
    rintro e w4 ⟨v4, rfl, hl4, b4⟩
    obtain ⟨o4, cap4, rfl, _, _⟩ := hl4.form
    have HB4 := Lib.hid (below5 HB3.out b4)
    have HRD4 := Lib.hid (HRD3.out.below b4)
    have HRB4 := Lib.hid (HRB3.out.below b4)
    have HL4 := Lib.hid hl4
    have HL34 := Lib.hid (HL3.out.below b4)
    obtain ⟨n, hn⟩ : ∃ n, (Tt.lines rep).length = n := ⟨_, rfl⟩
    rw [hn] at HL4 HL34 ⊢
    have HN := Lib.hid hn
    have hn1 : n <= 41 := by rw [<- hn]; exact HOK.out.lines_len
    have hn1z : (n : Int) <= 41 := by omega
    clear hli hl4 b4 hn r0 r1 r2 r3 r4 HL3
    gi_wp2_with fail
    gi_loopw [16, 17] (fun v16 v17 A => ∃ j : Nat, j <= n /\ v17 = .int .i64 j /\ v16 = S (Tt.body ((Tt.lines rep).take j)) /\ Hid (Below w4.heap.size w4 A)) (fun _ v17 _ => n - (intOf v17).toNat)
    case atStart => exact ⟨0, Nat.zero_le _, rfl, rfl, Below.refl _ _⟩
    case round =>
     obtain ⟨j, hj, rfl, rfl, HBJ⟩ := hrel
     obtain ⟨A, hA⟩ : ∃ x, x = wr := ⟨_, rfl⟩
     rw [<- hA] at HBJ ⊢
     clear hA
     obtain ⟨t, ht⟩ : ∃ t, Tt.body ((Tt.lines rep).take j) = t := ⟨_, rfl⟩
     rw [ht]
     have htl : t.length <= 5000000000 := by rw [<- ht]; exact HOK.out.body_len j
     have HTT := Lib.hid ht
     clear ht
     by_cases hlt : j < n
     case pos =>
      have hlz : (j : Int) < (n : Int) := by omega
      have hlen : j < (Tt.lines rep).length := by rw [HN.out]; exact hlt
      have hA3 : Rd (.slice o (Tt.lines rep).length n) (Tt.lines rep) A := by rw [HN.out]; exact HL34.out.below HBJ.out
      have hA4 : Rd (.slice o4 (Tt.lines rep).length cap4) (Tt.lines rep) A := by rw [HN.out]; exact HL4.out.below HBJ.out
      obtain ⟨ad, rfl, d1⟩ := hA3.cells _ (Below.refl _ _) j hlen
      obtain ⟨ae, rfl, d2⟩ := hA4.cells _ (Below.refl _ _) j hlen
      obtain ⟨x, hx⟩ : ∃ x, (Tt.lines rep)[j] = x := ⟨_, rfl⟩
      rw [hx] at d1 d2
      have hxl : x.length <= 100000000 := by rw [<- hx]; exact HOK.out.line_len _ (List.getElem_mem hlen)
      have HS2 : Hid (Tt.body ((Tt.lines rep).take (j + 1)) = t ++ (x ++ [10])) := by show _ = _; rw [Tt.body_take _ _ hlen, hx, HTT.out]
      clear hx hA3 hA4
      gi_wp2_with fail
      refine drawnH [3, 7] (fun w' => w'.cell? (ad.add j) = some (S x) /\ w'.cell? (ae.add j) = some (S x)) 9 rfl (by kernel_rfl) ?_
      intro w' hw'
      have hS : w'.cell? (ad.add j) = some (S x) /\ w'.cell? (ae.add j) = some (S x) := by subst hw'; exact ⟨d1, d2⟩
      have hbw : Below A.heap.size A w' := by subst hw'; exact (Below.refl _ _).drew
      have HBW2 := Lib.hid (below5 HBJ.out hbw)
      have d3 := hS.1
      clear hw' d1 d2 hbw
      refine tP 0 ?qav0 (fun w1 _ => ?qay0) ?_
      case qay0 => (go_simp; try first | rfl | (rw [if_pos (by omega)]) | (rw [if_neg (by omega)]) | (rw [if_neg (by simp; omega)]) | (split <;> first | (exfalso; omega) | rfl))
      refine tP 1 ?qav1 (fun w1 _ => ?qay1) ?_
      case qay1 => (go_simp; try first | rfl | (rw [if_pos (by omega)]) | (rw [if_neg (by omega)]) | (rw [if_neg (by simp; omega)]) | (split <;> first | (exfalso; omega) | rfl))
      refine tP 2 ?qav2 (fun w1 _ => ?qay2) ?_
      case qay2 => (go_simp; try first | rfl | (rw [if_pos (by omega)]) | (rw [if_neg (by omega)]) | (rw [if_neg (by simp; omega)]) | (split <;> first | (exfalso; omega) | rfl))
      refine tP 4 ?qav4 (fun w1 _ => ?qay4) ?_
      case qay4 => (go_simp; try first | rfl | (rw [if_pos (by omega)]) | (rw [if_neg (by omega)]) | (rw [if_neg (by simp; omega)]) | (split <;> first | (exfalso; omega) | rfl))
      refine tP 5 ?qav5 (fun w1 _ => ?qay5) ?_
      case qay5 => (go_simp; try first | rfl | (rw [if_pos (by omega)]) | (rw [if_neg (by omega)]) | (rw [if_neg (by simp; omega)]) | (split <;> first | (exfalso; omega) | rfl))
      refine tP 6 ?qav6 (fun w1 _ => ?qay6) ?_
      case qay6 => (go_simp; try first | rfl | (rw [if_pos (by omega)]) | (rw [if_neg (by omega)]) | (rw [if_neg (by simp; omega)]) | (split <;> first | (exfalso; omega) | rfl))
      simp only [Act.put, List.setIfInBounds_toArray, List.set_cons_succ, List.set_cons_zero]
      refine tH 3 ?qav3 hS (fun w1 ⟨f0, f1⟩ => ?qay3) ?_
      case qay3 => (go_simp; try first | rfl | (rw [if_pos (by omega)]) | (rw [if_neg (by omega)]) | (rw [if_neg (by simp; omega)]) | (split <;> first | (exfalso; omega) | rfl))
      refine tH 7 ?qav7 hS (fun w1 ⟨f0, f1⟩ => ?qay7) ?_
      case qay7 => (go_simp; try first | rfl | (rw [if_pos (by omega)]) | (rw [if_neg (by omega)]) | (rw [if_neg (by simp; omega)]) | (split <;> first | (exfalso; omega) | rfl))
      simp only [Act.put, List.setIfInBounds_toArray, List.set_cons_succ, List.set_cons_zero]
      refine tP 8 ?qav8 (fun w1 _ => ?qay8) ?_
      case qay8 => (go_simp; try first | rfl | (rw [if_pos (by omega)]) | (rw [if_neg (by omega)]) | (rw [if_neg (by simp; omega)]) | (split <;> first | (exfalso; omega) | rfl))
      simp only [Act.put, List.setIfInBounds_toArray, List.set_cons_succ, List.set_cons_zero]
      refine doneH (by kernel_rfl) ?_
      clear hS
      gi_wp2_with fail
      exact ⟨⟨j + 1, hlt, by go_num, by rw [HS2.out, <- List.append_assoc]; first | rfl | (show Value.string _ = Value.string _; congr 2; done) | (show Value.string _ = Value.string _; congr 2; simp), HBW2⟩, by simp [intOf]; omega⟩
     case neg =>
      obtain rfl : n = j := by omega
      have hlz : ¬ ((n : Int) < (n : Int)) := by omega
      have HTX : Hid (Tt.text rep = t) := by
       show _ = _
       have h := HTT.out
       rw [List.take_of_length_le (by rw [HN.out]; exact Nat.le_refl _)] at h
       exact h
      have HRB5 := Lib.hid (HRB4.out.below HBJ.out)
      have HB5 := Lib.hid (below5 HB4.out HBJ.out)
      have r0 : A.cell? ⟨RB, 0, none⟩ = some (.slice a3 k c3) := HRB5.out.cell 0
      have r1 : A.cell? ⟨RB, 1, none⟩ = some (.slice of nf cf) := HRB5.out.cell 1
      have r2 : A.cell? ⟨RB, 2, none⟩ = some (.slice og ng cg) := HRB5.out.cell 2
      have r3 : A.cell? ⟨RB, 3, none⟩ = some (.slice os ns cs) := HRB5.out.cell 3
      have r4 : A.cell? ⟨RB, 4, none⟩ = some (.int .i64 st) := HRB5.out.cell 4
      have hte := reptext_any _ _ _ _ rep A (HRD4.out.below HBJ.out) HOK.out (HT.out.below HB5.out)
      rw [HST.out, HTX.out] at hte
      have HTE := Lib.hid hte
      clear hte
      gi_wp2_with fail
      refine (callsIn_wide.2 HTE.out).mono ?_
      rintro e w6 ⟨rfl, b6⟩
      have HB6 := Lib.hid (below5 HB5.out b6)
      clear b6 r0 r1 r2 r3 r4
      gi_wp2_with fail
      go_ret
      exact ⟨rfl, HB6.out⟩
   ·gi_wp2_with fail
    refine (callsIn_wide.2 HFW.out).mono ?_
    rintro e w2 ⟨b, rfl, hok, b2⟩
    have HB2 := Lib.hid (below5 HBW.out b2)
    by_cases hbt : b = true
    case neg =>
     obtain rfl : b = false := by simpa using hbt
     clear hok hbt r0 r1 r2 r3 r4
     gi_wp2_with fail
     go_ret
     exact ⟨rfl, HB2.out⟩
    case pos =>
    subst hbt
    have HOK := Lib.hid (hok rfl)
    have HRD2 := Lib.hid (HRD.out.below b2)
    have HRB2 := Lib.hid (HRB.out.below b2)
    clear hok b2 r0 r1 r2 r3 r4
    have r0 : w2.cell? ⟨RB, 0, none⟩ = some (.slice a3 k c3) := HRB2.out.cell 0
    have r1 : w2.cell? ⟨RB, 1, none⟩ = some (.slice of nf cf) := HRB2.out.cell 1
    have r2 : w2.cell? ⟨RB, 2, none⟩ = some (.slice og ng cg) := HRB2.out.cell 2
    have r3 : w2.cell? ⟨RB, 3, none⟩ = some (.slice os ns cs) := HRB2.out.cell 3
    have r4 : w2.cell? ⟨RB, 4, none⟩ = some (.int .i64 st) := HRB2.out.cell 4
    gi_wp2_with fail
    have hli := lines_any _ _ _ _ rep w2 HRD2.out HOK.out (HT.out.below HB2.out)
    rw [HST.out] at hli
    refine (callsIn_wide.2 hli).mono ?_
    rintro e w3 ⟨o, rfl, hl3, _, b3⟩
    have HB3 := Lib.hid (below5 HB2.out b3)
    have HRD3 := Lib.hid (HRD2.out.below b3)
    have HRB3 := Lib.hid (HRB2.out.below b3)
    have HL3 := Lib.hid hl3
    clear hli hl3 b3 r0 r1 r2 r3 r4
    have r0 : w3.cell? ⟨RB, 0, none⟩ = some (.slice a3 k c3) := HRB3.out.cell 0
    have r1 : w3.cell? ⟨RB, 1, none⟩ = some (.slice of nf cf) := HRB3.out.cell 1
    have r2 : w3.cell? ⟨RB, 2, none⟩ = some (.slice og ng cg) := HRB3.out.cell 2
    have r3 : w3.cell? ⟨RB, 3, none⟩ = some (.slice os ns cs) := HRB3.out.cell 3
    have r4 : w3.cell? ⟨RB, 4, none⟩ = some (.int .i64 st) := HRB3.out.cell 4
    gi_wp2_with fail
    have hli := refLines_any _ _ _ _ rep w3 HRD3.out HOK.out
    rw [HST.out] at hli
    refine (callsIn_wide.2 hli).mono ?_
    rintro e w4 ⟨v4, rfl, hl4, b4⟩
    obtain ⟨o4, cap4, rfl, _, _⟩ := hl4.form
    have HB4 := Lib.hid (below5 HB3.out b4)
    have HRD4 := Lib.hid (HRD3.out.below b4)
    have HRB4 := Lib.hid (HRB3.out.below b4)
    have HL4 := Lib.hid hl4
    have HL34 := Lib.hid (HL3.out.below b4)
    obtain ⟨n, hn⟩ : ∃ n, (Tt.lines rep).length = n := ⟨_, rfl⟩
    rw [hn] at HL4 HL34 ⊢
    have HN := Lib.hid hn
    have hn1 : n <= 41 := by rw [<- hn]; exact HOK.out.lines_len
    have hn1z : (n : Int) <= 41 := by omega
    clear hli hl4 b4 hn r0 r1 r2 r3 r4 HL3
    gi_wp2_with fail
    gi_loopw [16, 17] (fun v16 v17 A => ∃ j : Nat, j <= n /\ v17 = .int .i64 j /\ v16 = S (Tt.body ((Tt.lines rep).take j)) /\ Hid (Below w4.heap.size w4 A)) (fun _ v17 _ => n - (intOf v17).toNat)
    case atStart => exact ⟨0, Nat.zero_le _, rfl, rfl, Below.refl _ _⟩
    case round =>
     obtain ⟨j, hj, rfl, rfl, HBJ⟩ := hrel
     obtain ⟨A, hA⟩ : ∃ x, x = wr := ⟨_, rfl⟩
     rw [<- hA] at HBJ ⊢
     clear hA
     obtain ⟨t, ht⟩ : ∃ t, Tt.body ((Tt.lines rep).take j) = t := ⟨_, rfl⟩
     rw [ht]
     have htl : t.length <= 5000000000 := by rw [<- ht]; exact HOK.out.body_len j
     have HTT := Lib.hid ht
     clear ht
     by_cases hlt : j < n
     case pos =>
      have hlz : (j : Int) < (n : Int) := by omega
      have hlen : j < (Tt.lines rep).length := by rw [HN.out]; exact hlt
      have hA3 : Rd (.slice o (Tt.lines rep).length n) (Tt.lines rep) A := by rw [HN.out]; exact HL34.out.below HBJ.out
      have hA4 : Rd (.slice o4 (Tt.lines rep).length cap4) (Tt.lines rep) A := by rw [HN.out]; exact HL4.out.below HBJ.out
      obtain ⟨ad, rfl, d1⟩ := hA3.cells _ (Below.refl _ _) j hlen
      obtain ⟨ae, rfl, d2⟩ := hA4.cells _ (Below.refl _ _) j hlen
      obtain ⟨x, hx⟩ : ∃ x, (Tt.lines rep)[j] = x := ⟨_, rfl⟩
      rw [hx] at d1 d2
      have hxl : x.length <= 100000000 := by rw [<- hx]; exact HOK.out.line_len _ (List.getElem_mem hlen)
      have HS2 : Hid (Tt.body ((Tt.lines rep).take (j + 1)) = t ++ (x ++ [10])) := by show _ = _; rw [Tt.body_take _ _ hlen, hx, HTT.out]
      clear hx hA3 hA4
      gi_wp2_with fail
      refine drawnH [3, 7] (fun w' => w'.cell? (ad.add j) = some (S x) /\ w'.cell? (ae.add j) = some (S x)) 9 rfl (by kernel_rfl) ?_
      intro w' hw'
      have hS : w'.cell? (ad.add j) = some (S x) /\ w'.cell? (ae.add j) = some (S x) := by subst hw'; exact ⟨d1, d2⟩
      have hbw : Below A.heap.size A w' := by subst hw'; exact (Below.refl _ _).drew
      have HBW2 := Lib.hid (below5 HBJ.out hbw)
      have d3 := hS.1
      clear hw' d1 d2 hbw
      refine tP 0 ?qbv0 (fun w1 _ => ?qby0) ?_
      case qby0 => (go_simp; try first | rfl | (rw [if_pos (by omega)]) | (rw [if_neg (by omega)]) | (rw [if_neg (by simp; omega)]) | (split <;> first | (exfalso; omega) | rfl))
      refine tP 1 ?qbv1 (fun w1 _ => ?qby1) ?_
      case qby1 => (go_simp; try first | rfl | (rw [if_pos (by omega)]) | (rw [if_neg (by omega)]) | (rw [if_neg (by simp; omega)]) | (split <;> first | (exfalso; omega) | rfl))
      refine tP 2 ?qbv2 (fun w1 _ => ?qby2) ?_
      case qby2 => (go_simp; try first | rfl | (rw [if_pos (by omega)]) | (rw [if_neg (by omega)]) | (rw [if_neg (by simp; omega)]) | (split <;> first | (exfalso; omega) | rfl))
      refine tP 4 ?qbv4 (fun w1 _ => ?qby4) ?_
      case qby4 => (go_simp; try first | rfl | (rw [if_pos (by omega)]) | (rw [if_neg (by omega)]) | (rw [if_neg (by simp; omega)]) | (split <;> first | (exfalso; omega) | rfl))
      refine tP 5 ?qbv5 (fun w1 _ => ?qby5) ?_
      case qby5 => (go_simp; try first | rfl | (rw [if_pos (by omega)]) | (rw [if_neg (by omega)]) | (rw [if_neg (by simp; omega)]) | (split <;> first | (exfalso; omega) | rfl))
      refine tP 6 ?qbv6 (fun w1 _ => ?qby6) ?_
      case qby6 => (go_simp; try first | rfl | (rw [if_pos (by omega)]) | (rw [if_neg (by omega)]) | (rw [if_neg (by simp; omega)]) | (split <;> first | (exfalso; omega) | rfl))
      simp only [Act.put, List.setIfInBounds_toArray, List.set_cons_succ, List.set_cons_zero]
      refine tH 3 ?qbv3 hS (fun w1 ⟨f0, f1⟩ => ?qby3) ?_
      case qby3 => (go_simp; try first | rfl | (rw [if_pos (by omega)]) | (rw [if_neg (by omega)]) | (rw [if_neg (by simp; omega)]) | (split <;> first | (exfalso; omega) | rfl))
      refine tH 7 ?qbv7 hS (fun w1 ⟨f0, f1⟩ => ?qby7) ?_
      case qby7 => (go_simp; try first | rfl | (rw [if_pos (by omega)]) | (rw [if_neg (by omega)]) | (rw [if_neg (by simp; omega)]) | (split <;> first | (exfalso; omega) | rfl))
      simp only [Act.put, List.setIfInBounds_toArray, List.set_cons_succ, List.set_cons_zero]
      refine tP 8 ?qbv8 (fun w1 _ => ?qby8) ?_
      case qby8 => (go_simp; try first | rfl | (rw [if_pos (by omega)]) | (rw [if_neg (by omega)]) | (rw [if_neg (by simp; omega)]) | (split <;> first | (exfalso; omega) | rfl))
      simp only [Act.put, List.setIfInBounds_toArray, List.set_cons_succ, List.set_cons_zero]
      refine doneH (by kernel_rfl) ?_
      clear hS
      gi_wp2_with fail
      exact ⟨⟨j + 1, hlt, by go_num, by rw [HS2.out, <- List.append_assoc]; first | rfl | (show Value.string _ = Value.string _; congr 2; done) | (show Value.string _ = Value.string _; congr 2; simp), HBW2⟩, by simp [intOf]; omega⟩
     case neg =>
      obtain rfl : n = j := by omega
      have hlz : ¬ ((n : Int) < (n : Int)) := by omega
      have HTX : Hid (Tt.text rep = t) := by
       show _ = _
       have h := HTT.out
       rw [List.take_of_length_le (by rw [HN.out]; exact Nat.le_refl _)] at h
       exact h
      have HRB5 := Lib.hid (HRB4.out.below HBJ.out)
      have HB5 := Lib.hid (below5 HB4.out HBJ.out)
      have r0 : A.cell? ⟨RB, 0, none⟩ = some (.slice a3 k c3) := HRB5.out.cell 0
      have r1 : A.cell? ⟨RB, 1, none⟩ = some (.slice of nf cf) := HRB5.out.cell 1
      have r2 : A.cell? ⟨RB, 2, none⟩ = some (.slice og ng cg) := HRB5.out.cell 2
      have r3 : A.cell? ⟨RB, 3, none⟩ = some (.slice os ns cs) := HRB5.out.cell 3
      have r4 : A.cell? ⟨RB, 4, none⟩ = some (.int .i64 st) := HRB5.out.cell 4
      have hte := reptext_any _ _ _ _ rep A (HRD4.out.below HBJ.out) HOK.out (HT.out.below HB5.out)
      rw [HST.out, HTX.out] at hte
      have HTE := Lib.hid hte
      clear hte
      gi_wp2_with fail
      refine (callsIn_wide.2 HTE.out).mono ?_
      rintro e w6 ⟨rfl, b6⟩
      have HB6 := Lib.hid (below5 HB5.out b6)
      clear b6 r0 r1 r2 r3 r4
      gi_wp2_with fail
      go_ret
      exact ⟨rfl, HB6.out⟩
end Go.Proofs.YtjhibbjafjhhjaaDoor
