/- What the laws of reports know first. -/
import Derived.Test.YtjhibbjafjhhjaaDoorKTtF
namespace Go.Proofs.YtjhibbjafjhhjaaDoor
open Go.RowKit Go.Shelf
set_option maxRecDepth 100000
namespace Tt
theorem dec1 (n : Nat) (h : n < 10) : Lib.decDigits n = [UInt8.ofNat (48 + n)] := by rw [Lib.decDigits, dif_pos h]
def rep0 : Rep := ⟨[⟨[122], 3, 2⟩], [⟨3, [[97]], 2⟩], [⟨4, [], [[97]], [], 0⟩], [⟨6, [[97]], 1, [0, 2]⟩], 11⟩
def rep1 : Rep := ⟨[], [], [], [], 11⟩
def rep2 : Rep := ⟨[], [], [], [], 0⟩
theorem rep1_ok : rep1.Ok := ⟨by decide, by decide, by decide, by decide, by simp [rep1], by simp [rep1], by simp [rep1], by simp [rep1], by decide, by decide⟩
theorem rep2_ok : rep2.Ok := ⟨by decide, by decide, by decide, by decide, by simp [rep2], by simp [rep2], by simp [rep2], by simp [rep2], by decide, by decide⟩
theorem rep0_ok : rep0.Ok := by
 have hn : NB [[97]] := NB.few (by decide)
 have hz : NB [] := NB.few (by decide)
 refine ⟨by decide, by decide, by decide, by decide, ?_, ?_, ?_, ?_, by decide, by decide⟩
 ·simp only [rep0, List.mem_singleton, forall_eq]
  exact ⟨by decide, by decide, by decide, by decide, by decide⟩
 ·simp only [rep0, List.mem_singleton, forall_eq]
  exact ⟨hn, by decide, by decide, by decide, by decide⟩
 ·simp only [rep0, List.mem_singleton, forall_eq]
  exact ⟨hz, hn, hz, by decide, by decide, by decide, by decide⟩
 ·simp only [rep0, List.mem_singleton, forall_eq]
  exact ⟨hn, by decide, by decide, by decide, by decide, by decide, by decide⟩
theorem text1 : text rep1 = [115, 116, 111, 112, 112, 101, 100, 32, 109, 97, 110, 121, 10] := by decide
theorem text2 : text rep2 = [] := by decide
theorem lines0 : lines rep0 = [[101, 114, 114, 111, 114, 32, 122, 58, 51, 58, 32, 102, 111, 114, 109], [102, 108, 97, 119, 32, 110, 111, 110, 115, 32, 97, 46, 32, 78, 83], [101, 100, 103, 101, 32, 110, 111, 99, 104, 105, 108, 100, 32, 46, 32, 97, 46, 32, 45, 32, 48], [115, 101, 101, 110, 32, 108, 97, 109, 101, 32, 97, 46, 32, 65, 32, 48, 44, 50], [115, 116, 111, 112, 112, 101, 100, 32, 109, 97, 110, 121]] := by
 have h3 := dec1 3 (by decide)
 have h0 := dec1 0 (by decide)
 have h2 := dec1 2 (by decide)
 have e1 : erRow ⟨[122], 3, 2⟩ = [[101, 114, 114, 111, 114], [122, 58, 51, 58, 32, 102, 111, 114, 109]] := by
  unfold erRow errText; rw [show Int.toNat 3 = 3 from rfl, h3]; decide
 have e2 : flRow ⟨3, [[97]], 2⟩ = [[102, 108, 97, 119], [110, 111, 110, 115], [97, 46], [78, 83]] := by decide
 have e3 : egRow ⟨4, [], [[97]], [], 0⟩ = [[101, 100, 103, 101], [110, 111, 99, 104, 105, 108, 100], [46], [97, 46], [45], [48]] := by
  unfold egRow; rw [show Int.toNat 0 = 0 from rfl, h0]; decide
 have e4 : seRow ⟨6, [[97]], 1, [0, 2]⟩ = [[115, 101, 101, 110], [108, 97, 109, 101], [97, 46], [65], [48, 44, 50]] := by
  have : picks ([0, 2].map Int.toNat) = [48, 44, 50] := by
   unfold picks nums
   rw [if_neg (by decide), show ([0, 2] : List Int).map Int.toNat = [0, 2] from rfl]
   simp only [List.map_cons, List.map_nil]
   rw [h0, h2]; decide
  unfold seRow; rw [this]; decide
 unfold lines rows rep0
 simp only [List.map_cons, List.map_nil, e1, e2, e3, e4]
 decide
end Tt
theorem lrd_one {α : Type} {k : Nat} {en : α -> List Value -> World -> Prop} {x : α} {cs : List Value} {b : Nat} {t : TypeId} {W : World} (hc : cs.length = k) (ho : ∀ u ∈ cs, u.oneCell' = true) (hb : Blk b cs.toArray t W) (he : en x cs W) : LRd k en (.slice (some ⟨b, 0, none⟩) 1 1) [x] W := by
 have h := GRd.blk (k := k) (xs := [cs]) (fun y hy => by rw [List.mem_singleton] at hy; subst hy; exact ⟨hc, ho⟩) (b := b) (t := t) (W := W) (by simpa using hb) (by simp)
 exact ⟨[cs], h, rfl, fun j hj hj' => by
  have : j = 0 := by simp at hj; omega
  subst this; exact he⟩
theorem lrd_nil {α : Type} (k : Nat) (en : α -> List Value -> World -> Prop) (W : World) : LRd k en (.slice none 0 0) [] W := ⟨[], GRd.nil k W, rfl, fun j h => by simp at h⟩
theorem rep_nil (n : Int) (W : World) : RepRd (.slice none 0 0) (.slice none 0 0) (.slice none 0 0) (.slice none 0 0) ⟨[], [], [], [], n⟩ W := ⟨lrd_nil _ _ W, lrd_nil _ _ W, lrd_nil _ _ W, lrd_nil _ _ W⟩
def Rep0W (w : World) : World := ((((((((w.alloc (.cells #[S [97]] 9)).alloc (.cells #[S [122], .int .i64 3, .int .i64 2] 32)).alloc (.cells #[.pointer (some ⟨w.heap.size + 1, 0, none⟩)] 33)).alloc (.cells #[.int .i64 3, .slice (some ⟨w.heap.size, 0, none⟩) 1 1, .int .i64 2] 41)).alloc (.cells #[.int .i64 4, .slice none 0 0, .slice (some ⟨w.heap.size, 0, none⟩) 1 1, .slice none 0 0, .int .i64 0] 55)).alloc (.cells #[.int .i64 0, .int .i64 2] 3)).alloc (.cells #[.int .i64 6, .slice (some ⟨w.heap.size, 0, none⟩) 1 1, .int .i64 1, .slice (some ⟨w.heap.size + 5, 0, none⟩) 2 2] 44)).alloc (.cells #[.slice (some ⟨w.heap.size + 2, 0, none⟩) 1 1, .slice (some ⟨w.heap.size + 3, 0, none⟩) 1 1, .slice (some ⟨w.heap.size + 4, 0, none⟩) 1 1, .slice (some ⟨w.heap.size + 6, 0, none⟩) 1 1, .int .i64 11] 30))
theorem rep0_read (w : World) : RepRd (.slice (some ⟨w.heap.size + 2, 0, none⟩) 1 1) (.slice (some ⟨w.heap.size + 3, 0, none⟩) 1 1) (.slice (some ⟨w.heap.size + 4, 0, none⟩) 1 1) (.slice (some ⟨w.heap.size + 6, 0, none⟩) 1 1) Tt.rep0 (Rep0W w) /\ Below w.heap.size w (Rep0W w) := by
 unfold Rep0W
 obtain ⟨W1, h1⟩ : ∃ x, w.alloc (.cells #[S [97]] 9) = x := ⟨_, rfl⟩
 have s1 : W1.heap.size = w.heap.size + 1 := by rw [<- h1, World.size_alloc]
 have k1 : Blk (w.heap.size) #[S [97]] 9 W1 := by
  have h := Blk.new w #[S [97]] 9
  rw [h1] at h; exact h
 have b1 : Below w.heap.size w W1 := by rw [<- h1]; exact (Below.refl _ _).alloc (Nat.le_refl _) _
 rw [h1]
 obtain ⟨W2, h2⟩ : ∃ x, W1.alloc (.cells #[S [122], .int .i64 3, .int .i64 2] 32) = x := ⟨_, rfl⟩
 have s2 : W2.heap.size = w.heap.size + 2 := by rw [<- h2, World.size_alloc, s1]
 have k2 : Blk (w.heap.size + 1) #[S [122], .int .i64 3, .int .i64 2] 32 W2 := by
  have h := Blk.new W1 #[S [122], .int .i64 3, .int .i64 2] 32
  rw [h2, s1] at h; exact h
 have b2 : Below W1.heap.size W1 W2 := by rw [<- h2]; exact (Below.refl _ _).alloc (Nat.le_refl _) _
 rw [h2]
 obtain ⟨W3, h3⟩ : ∃ x, W2.alloc (.cells #[.pointer (some ⟨w.heap.size + 1, 0, none⟩)] 33) = x := ⟨_, rfl⟩
 have s3 : W3.heap.size = w.heap.size + 3 := by rw [<- h3, World.size_alloc, s2]
 have k3 : Blk (w.heap.size + 2) #[.pointer (some ⟨w.heap.size + 1, 0, none⟩)] 33 W3 := by
  have h := Blk.new W2 #[.pointer (some ⟨w.heap.size + 1, 0, none⟩)] 33
  rw [h3, s2] at h; exact h
 have b3 : Below W2.heap.size W2 W3 := by rw [<- h3]; exact (Below.refl _ _).alloc (Nat.le_refl _) _
 rw [h3]
 obtain ⟨W4, h4⟩ : ∃ x, W3.alloc (.cells #[.int .i64 3, .slice (some ⟨w.heap.size, 0, none⟩) 1 1, .int .i64 2] 41) = x := ⟨_, rfl⟩
 have s4 : W4.heap.size = w.heap.size + 4 := by rw [<- h4, World.size_alloc, s3]
 have k4 : Blk (w.heap.size + 3) #[.int .i64 3, .slice (some ⟨w.heap.size, 0, none⟩) 1 1, .int .i64 2] 41 W4 := by
  have h := Blk.new W3 #[.int .i64 3, .slice (some ⟨w.heap.size, 0, none⟩) 1 1, .int .i64 2] 41
  rw [h4, s3] at h; exact h
 have b4 : Below W3.heap.size W3 W4 := by rw [<- h4]; exact (Below.refl _ _).alloc (Nat.le_refl _) _
 rw [h4]
 obtain ⟨W5, h5⟩ : ∃ x, W4.alloc (.cells #[.int .i64 4, .slice none 0 0, .slice (some ⟨w.heap.size, 0, none⟩) 1 1, .slice none 0 0, .int .i64 0] 55) = x := ⟨_, rfl⟩
 have s5 : W5.heap.size = w.heap.size + 5 := by rw [<- h5, World.size_alloc, s4]
 have k5 : Blk (w.heap.size + 4) #[.int .i64 4, .slice none 0 0, .slice (some ⟨w.heap.size, 0, none⟩) 1 1, .slice none 0 0, .int .i64 0] 55 W5 := by
  have h := Blk.new W4 #[.int .i64 4, .slice none 0 0, .slice (some ⟨w.heap.size, 0, none⟩) 1 1, .slice none 0 0, .int .i64 0] 55
  rw [h5, s4] at h; exact h
 have b5 : Below W4.heap.size W4 W5 := by rw [<- h5]; exact (Below.refl _ _).alloc (Nat.le_refl _) _
 rw [h5]
 obtain ⟨W6, h6⟩ : ∃ x, W5.alloc (.cells #[.int .i64 0, .int .i64 2] 3) = x := ⟨_, rfl⟩
 have s6 : W6.heap.size = w.heap.size + 6 := by rw [<- h6, World.size_alloc, s5]
 have k6 : Blk (w.heap.size + 5) #[.int .i64 0, .int .i64 2] 3 W6 := by
  have h := Blk.new W5 #[.int .i64 0, .int .i64 2] 3
  rw [h6, s5] at h; exact h
 have b6 : Below W5.heap.size W5 W6 := by rw [<- h6]; exact (Below.refl _ _).alloc (Nat.le_refl _) _
 rw [h6]
 obtain ⟨W7, h7⟩ : ∃ x, W6.alloc (.cells #[.int .i64 6, .slice (some ⟨w.heap.size, 0, none⟩) 1 1, .int .i64 1, .slice (some ⟨w.heap.size + 5, 0, none⟩) 2 2] 44) = x := ⟨_, rfl⟩
 have s7 : W7.heap.size = w.heap.size + 7 := by rw [<- h7, World.size_alloc, s6]
 have k7 : Blk (w.heap.size + 6) #[.int .i64 6, .slice (some ⟨w.heap.size, 0, none⟩) 1 1, .int .i64 1, .slice (some ⟨w.heap.size + 5, 0, none⟩) 2 2] 44 W7 := by
  have h := Blk.new W6 #[.int .i64 6, .slice (some ⟨w.heap.size, 0, none⟩) 1 1, .int .i64 1, .slice (some ⟨w.heap.size + 5, 0, none⟩) 2 2] 44
  rw [h7, s6] at h; exact h
 have b7 : Below W6.heap.size W6 W7 := by rw [<- h7]; exact (Below.refl _ _).alloc (Nat.le_refl _) _
 rw [h7]
 obtain ⟨W8, h8⟩ : ∃ x, W7.alloc (.cells #[.slice (some ⟨w.heap.size + 2, 0, none⟩) 1 1, .slice (some ⟨w.heap.size + 3, 0, none⟩) 1 1, .slice (some ⟨w.heap.size + 4, 0, none⟩) 1 1, .slice (some ⟨w.heap.size + 6, 0, none⟩) 1 1, .int .i64 11] 30) = x := ⟨_, rfl⟩
 have s8 : W8.heap.size = w.heap.size + 8 := by rw [<- h8, World.size_alloc, s7]
 have k8 : Blk (w.heap.size + 7) #[.slice (some ⟨w.heap.size + 2, 0, none⟩) 1 1, .slice (some ⟨w.heap.size + 3, 0, none⟩) 1 1, .slice (some ⟨w.heap.size + 4, 0, none⟩) 1 1, .slice (some ⟨w.heap.size + 6, 0, none⟩) 1 1, .int .i64 11] 30 W8 := by
  have h := Blk.new W7 #[.slice (some ⟨w.heap.size + 2, 0, none⟩) 1 1, .slice (some ⟨w.heap.size + 3, 0, none⟩) 1 1, .slice (some ⟨w.heap.size + 4, 0, none⟩) 1 1, .slice (some ⟨w.heap.size + 6, 0, none⟩) 1 1, .int .i64 11] 30
  rw [h8, s7] at h; exact h
 have b8 : Below W7.heap.size W7 W8 := by rw [<- h8]; exact (Below.refl _ _).alloc (Nat.le_refl _) _
 rw [h8]
 have hn : Rd (.slice (some ⟨w.heap.size, 0, none⟩) 1 1) [[97]] W8 := by
  have h := rd_built [[97]] (by decide) w
  have h1' : w.alloc (.cells ([[97]].map S).toArray 9) = W1 := h1
  rw [h1'] at h
  exact (((((((h.below b2).below b3).below b4).below b5).below b6).below b7).below b8)
 refine ⟨⟨?_, ?_, ?_, ?_⟩, below5 (below5 (below5 (below5 (below5 (below5 (below5 b1 b2) b3) b4) b5) b6) b7) b8⟩
 ·exact lrd_one (cs := [.pointer (some ⟨w.heap.size + 1, 0, none⟩)]) rfl (by simp [Value.oneCell']) (((((k3.below b4).below b5).below b6).below b7).below b8) ⟨_, rfl, ((((((k2.below b3).below b4).below b5).below b6).below b7).below b8)⟩
 ·exact lrd_one (cs := [.int .i64 3, .slice (some ⟨w.heap.size, 0, none⟩) 1 1, .int .i64 2]) rfl (by simp [Value.oneCell']) ((((k4.below b5).below b6).below b7).below b8) ⟨_, rfl, hn⟩
 ·exact lrd_one (cs := [.int .i64 4, .slice none 0 0, .slice (some ⟨w.heap.size, 0, none⟩) 1 1, .slice none 0 0, .int .i64 0]) rfl (by simp [Value.oneCell']) (((k5.below b6).below b7).below b8) ⟨_, _, _, rfl, Rd.nil _, hn, Rd.nil _⟩
 ·refine lrd_one (cs := [.int .i64 6, .slice (some ⟨w.heap.size, 0, none⟩) 1 1, .int .i64 1, .slice (some ⟨w.heap.size + 5, 0, none⟩) 2 2]) rfl (by simp [Value.oneCell']) (k7.below b8) ⟨_, _, rfl, hn, ?_⟩
  have k := ((k6.below b7).below b8)
  refine ⟨_, _, rfl, Nat.le_refl _, by unfold maxLen; decide, (fun h => by cases h), fun j hj => ⟨_, rfl, ?_⟩⟩
  have hadd : (⟨w.heap.size + 5, 0, none⟩ : Addr).add j = ⟨w.heap.size + 5, j, none⟩ := by unfold Addr.add; split <;> simp_all
  rw [hadd, k.cell j]
  have : j = 0 \/ j = 1 := by simp at hj; omega
  rcases this with rfl | rfl <;> rfl
set_option maxHeartbeats 4000000 in
theorem known25_any (w : World) (ht : Tab w) : Calls Tryd.prog 6 #[] w (Gives (.bool true) w) := by
 have HT := Lib.hid ht
 obtain ⟨hrd, hb8⟩ := rep0_read w
 have HL := Lib.hid (lines_any _ _ _ _ Tt.rep0 (Rep0W w) hrd Tt.rep0_ok (ht.below hb8))
 have HB8 := Lib.hid hb8
 clear ht hrd hb8
 refine (callsIn_wide (n := 0)).1 ?_
 refine callsIn_of_wp Tryd.func6 rfl trivial ?_ rfl
 simp only [Tryd.ntmps6, List.size_toArray, List.length_nil, Nat.reduceSub, Array.replicate_succ, Array.replicate_zero, List.push_toArray, List.append_toArray, List.nil_append, List.cons_append]
 gi_wp2_with fail
 refine (callsIn_wide.2 HL.out).mono ?_
 rintro e w2 ⟨o, rfl, hrd, _, b2⟩
 rw [Tt.lines0] at hrd ⊢
 have HB2 := Lib.hid (below5 HB8.out b2)
 have hcells : ∃ a, o = some a /\ Cs [(a, S [101, 114, 114, 111, 114, 32, 122, 58, 51, 58, 32, 102, 111, 114, 109]), (a.add 1, S [102, 108, 97, 119, 32, 110, 111, 110, 115, 32, 97, 46, 32, 78, 83]), (a.add 2, S [101, 100, 103, 101, 32, 110, 111, 99, 104, 105, 108, 100, 32, 46, 32, 97, 46, 32, 45, 32, 48]), (a.add 3, S [115, 101, 101, 110, 32, 108, 97, 109, 101, 32, 97, 46, 32, 65, 32, 48, 44, 50]), (a.add 4, S [115, 116, 111, 112, 112, 101, 100, 32, 109, 97, 110, 121])] w2 := by
  obtain ⟨o', cap, e, h1, h2, h3, h4⟩ := hrd
  cases e
  obtain ⟨a, rfl, c0⟩ := h4 0 (by simp)
  obtain ⟨_, e1, c1⟩ := h4 1 (by simp)
  cases e1
  obtain ⟨_, e2, c2⟩ := h4 2 (by simp)
  cases e2
  obtain ⟨_, e3, c3⟩ := h4 3 (by simp)
  cases e3
  obtain ⟨_, e4, c4⟩ := h4 4 (by simp)
  cases e4
  rw [add_zero'] at c0
  exact ⟨a, rfl, c0, c1, c2, c3, c4, trivial⟩
 obtain ⟨a, rfl, c0, c1, c2, c3, c4, _⟩ := hcells
 have hq : ∀ c, 0 < c -> a.add c = ⟨a.block, a.off + c, none⟩ := fun c hc => by unfold Addr.add; rw [if_neg (by omega)]
 simp only [hq 1 (by decide), hq 2 (by decide), hq 3 (by decide), hq 4 (by decide)] at c1 c2 c3 c4
 clear hq
 simp only [List.length_cons, List.length_nil, Nat.reduceAdd] at *
 clear hrd b2 HL
 gi_wp2_with fail
 have hT1 := reptext_any _ _ _ _ Tt.rep1 w2 (rep_nil 11 w2) Tt.rep1_ok (HT.out.below HB2.out)
 rw [Tt.text1] at hT1
 refine (callsIn_wide.2 hT1).mono ?_
 rintro e w3 ⟨rfl, b3⟩
 have HB3 := Lib.hid (below5 HB2.out b3)
 clear hT1 b3 c0 c1 c2 c3 c4
 gi_wp2_with fail
 have hT2 := reptext_any _ _ _ _ Tt.rep2 w3 (rep_nil 0 w3) Tt.rep2_ok (HT.out.below HB3.out)
 rw [Tt.text2] at hT2
 refine (callsIn_wide.2 hT2).mono ?_
 rintro e w4 ⟨rfl, b4⟩
 have HB4 := Lib.hid (below5 HB3.out b4)
 clear hT2 b4
 gi_wp2_with fail
 go_ret
 exact ⟨rfl, HB4.out⟩
end Go.Proofs.YtjhibbjafjhhjaaDoor
