/- Stable sorting: what a row's stable order is, that there is but one, and how two of them are brought together. -/
import Derived.Test.YtgmbefolgppmdaaGreatDoorKRf
namespace Go.Proofs.YtgmbefolgppmdaaGreatDoor
set_option maxRecDepth 100000
namespace Srt
structure Ord {α : Type} (lt : α -> α -> Bool) : Prop where
 asym : ∀ {a b}, lt a b = true -> lt b a = false
 trans : ∀ {a b c}, lt a b = false -> lt b c = false -> lt a c = false
variable {α : Type} {lt : α -> α -> Bool}
def eqv (lt : α -> α -> Bool) (x y : α) : Bool := !lt x y && !lt y x
def Sorted (lt : α -> α -> Bool) (l : List α) : Prop := l.Pairwise fun a b => lt b a = false
def Alike (lt : α -> α -> Bool) (l' l : List α) : Prop := ∀ z, l'.filter (eqv lt z) = l.filter (eqv lt z)
def St (lt : α -> α -> Bool) (l' l : List α) : Prop := Sorted lt l' /\ Alike lt l' l
theorem Ord.irr (h : Ord lt) (a : α) : lt a a = false := by
 cases e : lt a a with
 | false => rfl
 | true => have := h.asym e; rw [e] at this; cases this
theorem eqv_refl (h : Ord lt) (x : α) : eqv lt x x = true := by simp [eqv, h.irr]
theorem eqv_iff {x y : α} : eqv lt x y = true ↔ lt x y = false /\ lt y x = false := by simp [eqv]
theorem Ord.lt_of (h : Ord lt) {a b c : α} (h1 : lt a b = true) (h2 : lt c b = false) : lt a c = true := by
 cases e : lt a c with
 | true => rfl
 | false => have := h.trans e h2; rw [h1] at this; cases this
theorem Ord.lt_of' (h : Ord lt) {a b c : α} (h1 : lt a b = true) (h2 : lt a c = false) : lt c b = true := by
 cases e : lt c b with
 | true => rfl
 | false => have := h.trans h2 e; rw [h1] at this; cases this
theorem Alike.refl (l : List α) : Alike lt l l := fun _ => rfl
theorem Alike.trans {a b c : List α} (h : Alike lt a b) (k : Alike lt b c) : Alike lt a c := fun z => (h z).trans (k z)
theorem Alike.symm {a b : List α} (h : Alike lt a b) : Alike lt b a := fun z => (h z).symm
theorem Alike.append {a b c d : List α} (h : Alike lt a b) (k : Alike lt c d) : Alike lt (a ++ c) (b ++ d) := fun z => by rw [List.filter_append, List.filter_append, h z, k z]
theorem Alike.mem (ho : Ord lt) {a b : List α} (h : Alike lt a b) {x : α} : x ∈ a ↔ x ∈ b := by
 have := congrArg (fun l => x ∈ l) (h x)
 simp only [List.mem_filter, eqv_refl ho, and_true] at this
 exact iff_of_eq this
theorem Alike.nil (ho : Ord lt) {a : List α} (h : Alike lt a []) : a = [] := by
 cases a with
 | nil => rfl
 | cons x a => exact absurd ((h.mem ho).1 (List.mem_cons_self)) (by simp)
theorem St.unique (ho : Ord lt) : ∀ {a b : List α}, Sorted lt a -> Sorted lt b -> Alike lt a b -> a = b
 | [], b, _, _, h => (h.symm.nil ho).symm
 | x :: a, [], _, _, h => absurd (h.nil ho) (by simp)
 | x :: a, y :: b, ha, hb, h => by
  have ha' := List.pairwise_cons.1 ha
  have hb' := List.pairwise_cons.1 hb
  have hxy : lt x y = false := by
   have hx : x ∈ y :: b := (h.mem ho).1 List.mem_cons_self
   rcases List.mem_cons.1 hx with rfl | hx
   ·exact ho.irr _
   ·exact hb'.1 _ hx
  have hyx : lt y x = false := by
   have hy : y ∈ x :: a := (h.mem ho).2 List.mem_cons_self
   rcases List.mem_cons.1 hy with rfl | hy
   ·exact ho.irr _
   ·exact ha'.1 _ hy
  have e1 := h x
  rw [List.filter_cons_of_pos (eqv_refl ho x), List.filter_cons_of_pos (eqv_iff.2 ⟨hxy, hyx⟩)] at e1
  have exy : x = y := (List.cons.inj e1).1
  subst exy
  have : Alike lt a b := fun z => by
   have := h z
   rw [List.filter_cons, List.filter_cons] at this
   split at this
   ·exact (List.cons.inj this).2
   ·exact this
  rw [St.unique ho ha'.2 hb'.2 this]
theorem St.split (ho : Ord lt) {A1 A2 B1 B2 S1 S2 : List α} (hA : Sorted lt (A1 ++ A2)) (hB : Sorted lt (B1 ++ B2)) (h1 : ∀ a ∈ A1, ∀ d ∈ B2, lt d a = false) (h2 : ∀ b ∈ B1, ∀ a ∈ A2, lt b a = true)
  (s1 : St lt S1 (A1 ++ B1)) (s2 : St lt S2 (A2 ++ B2)) : St lt (S1 ++ S2) ((A1 ++ A2) ++ (B1 ++ B2)) := by
 have hA' := List.pairwise_append.1 hA
 have hB' := List.pairwise_append.1 hB
 constructor
 ·refine List.pairwise_append.2 ⟨s1.1, s2.1, fun x hx y hy => ?_⟩
  rcases List.mem_append.1 ((s1.2.mem ho).1 hx) with hx | hx <;> rcases List.mem_append.1 ((s2.2.mem ho).1 hy) with hy | hy
  ·exact hA'.2.2 _ hx _ hy
  ·exact h1 _ hx _ hy
  ·exact ho.asym (h2 _ hx _ hy)
  ·exact hB'.2.2 _ hx _ hy
 ·intro z
  rw [List.filter_append, s1.2 z, s2.2 z]
  simp only [List.filter_append]
  have hn : B1.filter (eqv lt z) = [] \/ A2.filter (eqv lt z) = [] := by
   rcases hb : B1.filter (eqv lt z) with _ | ⟨b, B⟩
   ·exact .inl rfl
   ·refine .inr (List.filter_eq_nil_iff.2 fun a ha hz => ?_)
    have hb' : b ∈ B1.filter (eqv lt z) := by rw [hb]; exact List.mem_cons_self
    obtain ⟨hb1, hb2⟩ := List.mem_filter.1 hb'
    have hl := h2 b hb1 a ha
    have e1 := eqv_iff.1 hb2
    have e2 := eqv_iff.1 hz
    have := ho.trans e1.2 e2.1
    rw [hl] at this; cases this
  rcases hn with hn | hn <;> rw [hn] <;> simp
theorem St.one (x : α) : St lt [x] [x] := ⟨List.pairwise_singleton _ _, .refl _⟩
theorem St.self {l : List α} (h : Sorted lt l) : St lt l l := ⟨h, .refl _⟩
theorem Sorted.sub {l l' : List α} (h : Sorted lt l) (hs : l'.Sublist l) : Sorted lt l' := List.Pairwise.sublist hs h
theorem St.insert (ho : Ord lt) {A1 A2 : List α} {x : α} (hA : Sorted lt (A1 ++ A2)) (h1 : ∀ a ∈ A1, lt x a = false) (h2 : ∀ a ∈ A2, lt x a = true) : St lt (A1 ++ x :: A2) ((A1 ++ A2) ++ [x]) := by
 have := St.split ho (B1 := [x]) (B2 := []) (S1 := A1 ++ [x]) (S2 := A2) hA (by simp [Sorted]) (by simp) (by simpa using h2)
  ⟨List.pairwise_append.2 ⟨hA.sub (List.sublist_append_left _ _), List.pairwise_singleton _ _, by simpa using h1⟩, .refl _⟩ (by rw [List.append_nil]; exact St.self (hA.sub (List.sublist_append_right _ _)))
 simpa using this
theorem St.insertL (ho : Ord lt) {B1 B2 : List α} {x : α} (hB : Sorted lt (B1 ++ B2)) (h1 : ∀ b ∈ B1, lt b x = true) (h2 : ∀ b ∈ B2, lt b x = false) : St lt (B1 ++ x :: B2) ([x] ++ (B1 ++ B2)) := by
 have := St.split ho (A1 := []) (A2 := [x]) (S1 := B1) (S2 := x :: B2) (by simp [Sorted]) hB (by simp) (by simpa using h1)
  (by rw [List.nil_append]; exact St.self (hB.sub (List.sublist_append_left _ _)))
  ⟨List.pairwise_cons.2 ⟨h2, hB.sub (List.sublist_append_right _ _)⟩, .refl _⟩
 simpa using this
def ins (lt : α -> α -> Bool) (x : α) : List α -> List α
 | [] => [x]
 | y :: l => if lt x y then x :: y :: l else y :: ins lt x l
def srt (lt : α -> α -> Bool) (l : List α) : List α := l.foldl (fun s x => ins lt x s) []
theorem ins_eq (ho : Ord lt) (x : α) : ∀ {l : List α}, Sorted lt l -> ∃ A B, l = A ++ B /\ ins lt x l = A ++ x :: B /\ (∀ a ∈ A, lt x a = false) /\ ∀ b ∈ B, lt x b = true
 | [], _ => ⟨[], [], rfl, rfl, by simp, by simp⟩
 | y :: l, h => by
  have h' := List.pairwise_cons.1 h
  unfold ins
  split
  ·rename_i hl
   refine ⟨[], y :: l, rfl, rfl, by simp, fun b hb => ?_⟩
   rcases List.mem_cons.1 hb with rfl | hb
   ·exact hl
   ·exact ho.lt_of hl (h'.1 _ hb)
  ·rename_i hl
   obtain ⟨A, B, e1, e2, h1, h2⟩ := ins_eq ho x h'.2
   refine ⟨y :: A, B, by rw [e1]; rfl, by rw [e2]; rfl, fun a ha => ?_, h2⟩
   rcases List.mem_cons.1 ha with rfl | ha
   ·simpa using hl
   ·exact h1 _ ha
theorem ins_st (ho : Ord lt) (x : α) {l : List α} (h : Sorted lt l) : St lt (ins lt x l) (l ++ [x]) := by
 obtain ⟨A, B, rfl, e, h1, h2⟩ := ins_eq ho x h
 rw [e]; exact St.insert ho h h1 h2
theorem srt_snoc (l : List α) (x : α) : srt lt (l ++ [x]) = ins lt x (srt lt l) := by simp [srt]
theorem srt_st (ho : Ord lt) (l : List α) : St lt (srt lt l) l := by
 suffices H : ∀ n (l : List α), l.length = n -> St lt (srt lt l) l from H _ l rfl
 intro n
 induction n with
 | zero => intro l hl; obtain rfl := List.length_eq_zero_iff.1 hl; exact St.self (by simp [srt, Sorted])
 | succ n ih =>
  intro l hl
  obtain ⟨l', x, rfl⟩ : ∃ l' x, l = l' ++ [x] := by
   rcases List.eq_nil_or_concat l with h | ⟨l', x, h⟩
   ·rw [h] at hl; simp at hl
   ·exact ⟨l', x, by rw [h, List.concat_eq_append]⟩
  have hs := ih l' (by simpa using hl)
  rw [srt_snoc]
  have := ins_st ho x hs.1
  exact ⟨this.1, this.2.trans (Alike.append hs.2 (.refl _))⟩
theorem St.eq_srt (ho : Ord lt) {l' l : List α} (h : St lt l' l) : l' = srt lt l := St.unique ho h.1 (srt_st ho l).1 (h.2.trans (srt_st ho l).2.symm)
theorem ins_all {x : α} : ∀ {B : List α}, (∀ b ∈ B, lt x b = true) -> ins lt x B = x :: B
 | [], _ => rfl
 | b :: B, h => by unfold ins; rw [if_pos (h b List.mem_cons_self)]
theorem ins_skip {x : α} : ∀ {A B : List α}, (∀ a ∈ A, lt x a = false) -> ins lt x (A ++ B) = A ++ ins lt x B
 | [], _, _ => rfl
 | a :: A, B, h => by
  rw [List.cons_append, ins, if_neg (by rw [h a List.mem_cons_self]; exact Bool.false_ne_true), ins_skip (fun b hb => h b (List.mem_cons_of_mem _ hb))]; rfl
theorem ins_len (x : α) : ∀ l : List α, (ins lt x l).length = l.length + 1
 | [] => rfl
 | y :: l => by
  unfold ins
  split
  ·rfl
  ·rw [List.length_cons, ins_len x l]; rfl
theorem srt_len (l : List α) : (srt lt l).length = l.length := by
 suffices H : ∀ (l s : List α), (l.foldl (fun s x => ins lt x s) s).length = s.length + l.length by simpa [srt] using H l []
 intro l
 induction l with
 | nil => intro s; rfl
 | cons x l ih => intro s; rw [List.foldl_cons, ih, ins_len]; simp; omega
theorem ins_stop (ho : Ord lt) {x y : α} {A B : List α} (hs : Sorted lt (A ++ y :: B)) (h : lt x y = false) (hB : ∀ b ∈ B, lt x b = true) : ins lt x (A ++ y :: B) = A ++ y :: x :: B := by
 have hA : ∀ a ∈ A, lt x a = false := fun a ha => ho.trans h ((List.pairwise_append.1 hs).2.2 a ha y List.mem_cons_self)
 rw [ins_skip hA, ins, if_neg (by rw [h]; exact Bool.false_ne_true), ins_all hB]
theorem sorted_get [Inhabited α] {Y : List α} (h : Sorted lt Y) {i j : Nat} (hij : i < j) (hj : j < Y.length) : lt Y[j]! Y[i]! = false := by
 rw [getElem!_pos Y j hj, getElem!_pos Y i (by omega)]
 exact List.pairwise_iff_getElem.1 h i j (by omega) hj hij
theorem all_take [Inhabited α] {Y : List α} {u : Nat} {p : α -> Prop} (h : ∀ t, t < Y.length -> t < u -> p Y[t]!) : ∀ b ∈ Y.take u, p b := by
 intro b hb
 obtain ⟨i, hi, rfl⟩ := List.mem_iff_getElem.1 hb
 rw [List.length_take] at hi
 have := h i (by omega) (by omega)
 rw [getElem!_pos Y i (by omega)] at this
 rw [List.getElem_take]; exact this
theorem all_drop [Inhabited α] {Y : List α} {u : Nat} {p : α -> Prop} (h : ∀ t, t < Y.length -> u <= t -> p Y[t]!) : ∀ b ∈ Y.drop u, p b := by
 intro b hb
 obtain ⟨i, hi, rfl⟩ := List.mem_iff_getElem.1 hb
 rw [List.length_drop] at hi
 have := h (u + i) (by omega) (by omega)
 rw [getElem!_pos Y (u + i) (by omega)] at this
 rw [List.getElem_drop]; exact this
theorem ins_map {β : Type} (h : β -> α) (x : β) : ∀ l : List β, (ins (fun a b => lt (h a) (h b)) x l).map h = ins lt (h x) (l.map h)
 | [] => rfl
 | y :: l => by
  simp only [ins, List.map_cons]
  split
  ·rfl
  ·rw [List.map_cons, ins_map h x l]
theorem srt_map {β : Type} (h : β -> α) (l : List β) : (srt (fun a b => lt (h a) (h b)) l).map h = srt lt (l.map h) := by
 suffices H : ∀ (l s : List β), (l.foldl (fun s x => ins (fun a b => lt (h a) (h b)) x s) s).map h = (l.map h).foldl (fun s x => ins lt x s) (s.map h) from H l []
 intro l
 induction l with
 | nil => intro s; rfl
 | cons x l ih => intro s; rw [List.foldl_cons, ih, ins_map, List.map_cons, List.foldl_cons]
theorem sym_cut [Inhabited α] (ho : Ord lt) {X Y : List α} (hX : Sorted lt X) (hY : Sorted lt Y) {h u lo hi : Nat} (h1 : lo <= u) (h2 : u <= hi) (h3 : hi <= X.length) (h4 : hi <= h) (h5 : h <= lo + Y.length) (h6 : lo = 0 \/ h = lo + Y.length) (h7 : hi = X.length \/ hi = h)
  (ha : ∀ c, lo <= c -> c < u -> lt Y[h - 1 - c]! X[c]! = false) (hb : ∀ c, u <= c -> c < hi -> lt Y[h - 1 - c]! X[c]! = true) :
  (∀ a ∈ X.take u, ∀ d ∈ Y.drop (h - u), lt d a = false) /\ (∀ b ∈ Y.take (h - u), ∀ a ∈ X.drop u, lt b a = true) := by
 constructor
 ·refine all_take fun i hi1 hi2 => all_drop fun j hj1 hj2 => ?_
  have hl : lo < u := by rcases h6 with h6 | h6 <;> omega
  have e := ha (u - 1) (by omega) (by omega)
  rw [show h - 1 - (u - 1) = h - u by omega] at e
  have e1 : lt Y[j]! Y[h - u]! = false := by
   rcases Nat.lt_or_ge (h - u) j with hj | hj
   ·exact sorted_get hY hj hj1
   ·rw [show j = h - u by omega]; exact ho.irr _
  have e2 : lt X[u - 1]! X[i]! = false := by
   rcases Nat.lt_or_ge i (u - 1) with hj | hj
   ·exact sorted_get hX hj (by omega)
   ·rw [show i = u - 1 by omega]; exact ho.irr _
  exact ho.trans (ho.trans e1 e) e2
 ·refine all_take fun j hj1 hj2 => all_drop fun i hi1 hi2 => ?_
  have hl : u < hi := by rcases h7 with h7 | h7 <;> omega
  have e := hb u (by omega) hl
  have e1 : lt Y[h - 1 - u]! Y[j]! = false := by
   rcases Nat.lt_or_ge j (h - 1 - u) with hj | hj
   ·exact sorted_get hY hj (by omega)
   ·rw [show j = h - 1 - u by omega]; exact ho.irr _
  have e2 : lt X[i]! X[u]! = false := by
   rcases Nat.lt_or_ge u i with hj | hj
   ·exact sorted_get hX hj (by omega)
   ·rw [show i = u by omega]; exact ho.irr _
  have := ho.lt_of' e e1
  exact ho.lt_of this e2
end Srt
end Go.Proofs.YtgmbefolgppmdaaGreatDoor
