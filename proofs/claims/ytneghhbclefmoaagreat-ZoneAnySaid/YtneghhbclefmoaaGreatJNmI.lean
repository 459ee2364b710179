import Derived.Test.YtneghhbclefmoaaGreatJNmH
import Derived.Laws.MakeOwn
import Derived.SliceStrings
section
/- Names in small letters. -/
namespace Go.Proofs.YtneghhbclefmoaaGreat
open Go.RowKit Go.Shelf
set_option maxRecDepth 100000

theorem make_strs (t : TypeId) (ht : Tryz.prog.underlying t = some (.slice 9)) (m : Nat) (hm : m ≤ 100000) (w : World) :
    ∃ cs : Array Value, (Instr.makeSlice t (.int .i64 m) (.int .i64 m)).run Tryz.prog w = .ok (.slice (some ⟨w.heap.size, 0, none⟩) m m) (w.alloc (.cells cs 9)) ∧ cs.toList = (List.replicate m ([] : List UInt8)).map S := by
  obtain ⟨i0, hi, hz0, hz1, hz2⟩ := info_parts Tryz.info_str
  refine ⟨madeCells #[.string ⟨#[]⟩] m, ?_, ?_⟩
  · have := run_make (P := Tryz.prog) w t 9 i0 (.string ⟨#[]⟩) ht hi hz0 .i64 .i64 m m (by omega) (by omega) (by rw [hz2]; omega) (by omega)
    simpa [hz1, Value.cells] using this
  · simp only [madeCells, List.map_replicate]
    rw [Array.toList_map, Array.toList_range]
    apply List.ext_getElem (by simp)
    intro j h1 h2
    simp [S, Nat.mod_one]
theorem row_made (m : Nat) (hm : m ≤ 100000) (cs : Array Value) (w : World) (hc : cs.toList = (List.replicate m ([] : List UInt8)).map S) :
    Row (Own w) 9 1 (.slice (some ⟨w.heap.size, 0, none⟩) m m) m ((List.replicate m ([] : List UInt8)).map S) (w.alloc (.cells cs 9)) := by
  refine ⟨?_, fun g hg => by cases hg; exact Nat.le_refl _⟩
  have := World.ownsRow_lit (e := 9) (size := 1) (base := 0) w cs m (Nat.zero_le _) (by unfold maxLen; omega) (by rw [← Array.length_toList, hc]; simp)
  rwa [hc] at this
def Nm.foldTo (n : List (List UInt8)) (k : Nat) : List (List UInt8) := (n.take k).map Lb.fold ++ List.replicate (n.length - k) []
theorem Nm.foldTo_zero (n : List (List UInt8)) : Nm.foldTo n 0 = List.replicate n.length [] := by simp [Nm.foldTo]
theorem Nm.foldTo_end (n : List (List UInt8)) : Nm.foldTo n n.length = Nm.fold n := by simp [Nm.foldTo, Nm.fold]
theorem Nm.foldTo_length (n : List (List UInt8)) (k : Nat) (h : k ≤ n.length) : (Nm.foldTo n k).length = n.length := by simp [Nm.foldTo]; omega
theorem Nm.foldTo_succ (n : List (List UInt8)) (k : Nat) (h : k < n.length) : ((Nm.foldTo n k).map S).set k (S (Lb.fold n[k])) = (Nm.foldTo n (k + 1)).map S := by
  rw [← List.map_set]
  congr 1
  unfold Nm.foldTo
  rw [List.set_append_right _ _ (by simp; omega), List.take_succ_eq_append_getElem h, List.map_append, List.append_assoc]
  congr 1
  rw [show k - ((n.take k).map Lb.fold).length = 0 by simp; omega, show n.length - k = (n.length - (k + 1)) + 1 by omega, List.replicate_succ, List.set_cons_zero]
  rfl
theorem Nm.fold_len (n : List (List UInt8)) : (Nm.fold n).length = n.length := by simp [Nm.fold]

theorem Nm.foldm_succ (n : List (List UInt8)) (k : Nat) (h : k < n.length) : (n.take (k + 1)).map Lb.fold = (n.take k).map Lb.fold ++ [Lb.fold n[k]] := by
  rw [List.take_succ_eq_append_getElem h, List.map_append]; rfl
theorem rd_one (x : List UInt8) (w : World) : Rd (.slice (some ⟨w.heap.size, 0, none⟩) 1 1) [x] (w.alloc (.cells #[S x] 9)) := Rd.of_row (row_one x w)

end Go.Proofs.YtneghhbclefmoaaGreat
end
section
/- Names: another end instead of a name's own. -/
namespace Go.Proofs.YtneghhbclefmoaaGreat
open Go.RowKit Go.Shelf
set_option maxRecDepth 100000

theorem Rd.init {o l cap} {W : World} (h : Rd (.slice o l.length cap) l W) (j : Nat) (hj : j ≤ l.length) : Rd (.slice o j cap) (l.take j) W := by
  obtain ⟨_, _, e, h1, h2, h3, h4⟩ := h; cases e
  have hl : (l.take j).length = j := by simp; omega
  refine ⟨o, cap, by rw [hl], by omega, h2, h3, fun k hk => ?_⟩
  obtain ⟨a, ha, hc⟩ := h4 k (by omega)
  exact ⟨a, ha, by rw [hc]; simp⟩
def RdErr (p : List (List UInt8) × Int) (w : World) (e : Ending) (w' : World) : Prop := ∃ v, e = .returned (.tuple #[v, .int .i64 p.2]) ∧ Rd v p.1 w' ∧ Below w.heap.size w w'
theorem NB.append {a b : List (List UInt8)} (ha : NB a) (hb : NB b) (h : a.length + b.length ≤ 1000) : NB (a ++ b) := ⟨by simpa using h, fun x hx => by
  rcases List.mem_append.1 hx with h | h
  · exact ha.2 x h
  · exact hb.2 x h⟩

theorem Nm.swap_not {n f t : List (List UInt8)} (h : Nm.under n f = false) : Nm.swap n f t = ([], 12) := by simp [Nm.swap, h]
theorem Nm.swap_bad {n f t : List (List UInt8)} (h : Nm.under n f = true) (hc : Nm.check (n.take (n.length - f.length) ++ t) ≠ 0) : Nm.swap n f t = ([], 7) := by simp [Nm.swap, h, hc]
theorem Nm.swap_ok {n f t : List (List UInt8)} (h : Nm.under n f = true) (hc : Nm.check (n.take (n.length - f.length) ++ t) = 0) : Nm.swap n f t = (n.take (n.length - f.length) ++ t, 0) := by simp [Nm.swap, h, hc]
theorem Nm.under_le' {n f : List (List UInt8)} (h : Nm.under n f = true) : f.length ≤ n.length := by
  simp [Nm.under] at h; exact h.1

end Go.Proofs.YtneghhbclefmoaaGreat
end
section
/- A text's labels. -/
namespace Go.Proofs.YtneghhbclefmoaaGreat
open Go.RowKit Go.Shelf
set_option maxRecDepth 100000

theorem Lb.splitF_one : ∀ (m : Nat) (s cur x : List UInt8), s.length ≤ m → Lb.splitF cur s = some [x] → x = cur ++ s
  | _, [], cur, x, _, h => by simp only [Lb.splitF, Option.some.injEq, List.cons.injEq, and_true] at h; simp [h]
  | 0, c :: r, cur, x, hm, _ => by simp at hm
  | m + 1, c :: r, cur, x, hm, h => by
    simp only [List.length_cons] at hm
    unfold Lb.splitF at h
    split at h
    · obtain ⟨y, hy, he⟩ := Option.map_eq_some_iff.1 h
      have := Lb.splitF_pos r.length [] r y (Nat.le_refl _) hy
      cases he
      simp at this
    · split at h
      · rename_i h92
        match r, hm, h with
        | [], _, h => cases h
        | d :: r, hm, h =>
          have := Lb.splitF_one m r _ x (by simp at hm; omega) h
          rw [this, h92]; simp
      · have := Lb.splitF_one m r _ x (by omega) h
        rw [this]; simp
theorem Lb.split_one {s : List UInt8} (h : Lb.split s = some [[]]) : s = [] := by
  have := Lb.splitF_one s.length s [] [] (Nat.le_refl _) h
  simpa using this.symm
theorem Lb.parse_len {p : List UInt8} (_h : (Lb.parse p).2 = 0) : (Lb.parse p).1.length ≤ 63 := by
  unfold Lb.parse at _h ⊢
  split
  · rename_i hu
    rw [if_pos hu] at _h
    split
    · rename_i hc
      unfold Lb.check at hc
      split at hc
      · cases hc
      · split at hc
        · cases hc
        · simpa using (by omega)
    · simp
  · simp

structure Nm.PtAt (l acc : List (List UInt8)) (k : Nat) : Prop where
  le : k ≤ l.length
  len : acc.length = k
  short : ∀ x ∈ acc, x.length ≤ 63
  eq : Nm.partsF l = (Nm.partsF (l.drop k)).map (fun x => (acc ++ x.1, x.2))
theorem Nm.PtAt.start (l : List (List UInt8)) : Nm.PtAt l [] 0 := by
  refine ⟨by omega, rfl, fun x h => (by cases h), ?_⟩
  rw [List.drop_zero]
  cases Nm.partsF l with
  | error e => rfl
  | ok x => rfl
theorem Nm.PtAt.go {l acc k} (h : Nm.PtAt l acc k) (hk : k < l.length) (hl : ¬ (l[k] = [] ∧ k + 1 = l.length)) (hz : (Lb.parse l[k]).2 = 0) : Nm.PtAt l (acc ++ [(Lb.parse l[k]).1]) (k + 1) := by
  refine ⟨hk, by simp [h.len], fun x hx => ?_, ?_⟩
  · rcases List.mem_append.1 hx with hx | hx
    · exact h.short x hx
    · rw [List.mem_singleton.1 hx]; exact Lb.parse_len hz
  · rw [h.eq, List.drop_eq_getElem_cons hk, Nm.partsF, if_neg, if_pos hz]
    · cases Nm.partsF (l.drop (k + 1)) with
      | error e => rfl
      | ok x => simp [Except.map]
    · rintro ⟨h1, h2⟩
      exact hl ⟨h1, by have := List.length_drop (i := k + 1) (l := l); rw [h2] at this; simp at this; omega⟩
theorem Nm.PtAt.bad {l acc k} (h : Nm.PtAt l acc k) (hk : k < l.length) (hl : ¬ (l[k] = [] ∧ k + 1 = l.length)) (hz : (Lb.parse l[k]).2 ≠ 0) : Nm.partsF l = .error (Lb.parse l[k]).2 := by
  rw [h.eq, List.drop_eq_getElem_cons hk, Nm.partsF, if_neg, if_neg hz]
  · rfl
  · rintro ⟨h1, h2⟩
    exact hl ⟨h1, by have := List.length_drop (i := k + 1) (l := l); rw [h2] at this; simp at this; omega⟩
theorem Nm.PtAt.whole {l acc k} (h : Nm.PtAt l acc k) (hk : k < l.length) (hl : l[k] = [] ∧ k + 1 = l.length) : Nm.partsF l = .ok (acc, true) := by
  rw [h.eq, List.drop_eq_getElem_cons hk, Nm.partsF, if_pos ⟨hl.1, List.drop_of_length_le (by omega)⟩]
  simp [Except.map]
theorem Nm.PtAt.done {l acc k} (h : Nm.PtAt l acc k) (hk : ¬ k < l.length) : Nm.partsF l = .ok (acc, false) := by
  rw [h.eq, List.drop_of_length_le (by omega), Nm.partsF]
  simp [Except.map]

def PartsP (r : Except Int (List (List UInt8) × Bool)) (w : World) (e : Ending) (w' : World) : Prop := Below w.heap.size w w' ∧ match r with
  | .error z => z ≠ 0 ∧ e = .returned (.tuple #[.slice none 0 0, .bool false, .int .i64 z])
  | .ok (n, b) => n.length ≤ 800 ∧ (∀ x ∈ n, x.length ≤ 63) ∧ ∃ v, e = .returned (.tuple #[v, .bool b, .int .i64 0]) ∧ Row (Own w) 9 1 v n.length (n.map S) w'

end Go.Proofs.YtneghhbclefmoaaGreat
end
section
/- A text as a name. -/
namespace Go.Proofs.YtneghhbclefmoaaGreat
open Go.RowKit Go.Shelf
set_option maxRecDepth 100000

theorem NB.short {n : List (List UInt8)} (h : n.length ≤ 800) (hs : ∀ x ∈ n, x.length ≤ 63) : NB n := ⟨by omega, fun x hx => by have := hs x hx; omega⟩

def Nm.parseB (r : Except Int (List (List UInt8) × Bool)) (n : List (List UInt8)) : List (List UInt8) × Int := match r with
  | .error e => ([], e)
  | .ok (m, true) => Nm.fin m
  | .ok (m, false) => Nm.fin (m ++ n)

end Go.Proofs.YtneghhbclefmoaaGreat
end
section
/- A text as a name, as the document reads it. -/
namespace Go.Proofs.YtneghhbclefmoaaGreat
open Go.RowKit Go.Shelf
set_option maxRecDepth 100000

/-- where the reading of the parts stands: the labels that are read, whether the last part was none -/
def RpAt (w : World) (l : List (List UInt8)) (k : Nat) (acc : List (List UInt8)) (b : Bool) (v : Value) (wr : World) : Prop :=
  acc.length ≤ 800 ∧ (∀ x ∈ acc, x.length ≤ 63) ∧ Row (Own w) 9 1 v acc.length (acc.map S) wr ∧ (b = false → Nm.PtAt l acc k) ∧ (b = true → k = l.length ∧ Nm.partsF l = .ok (acc, true))

end Go.Proofs.YtneghhbclefmoaaGreat
end
section
/- The law's own 'known'. -/
namespace Go.Proofs.YtneghhbclefmoaaGreat
open Go.RowKit Go.Shelf
set_option maxRecDepth 100000

theorem rd_two (x y : List UInt8) (w : World) : Rd (.slice (some ⟨w.heap.size, 0, none⟩) 2 2) [x, y] (w.alloc (.cells #[S x, S y] 9)) := by
  refine Rd.of_row (R := Own w) (e := 9) (l := [x, y]) ⟨World.ownsRow_lit w #[S x, S y] 2 (Nat.zero_le _) (by unfold maxLen; omega) rfl, fun g hg => ?_⟩
  cases hg; exact Nat.le_refl _
theorem Rd.alloc {v l} {W : World} (h : Rd v l W) (o : Obj) : Rd v l (W.alloc o) := h.kept fun _p hp => World.cell?_of_block (Below.heap_alloc _ _ _ hp)
theorem rd_two' (x y : List UInt8) (w : World) (o : Obj) : Rd (.slice (some ⟨w.heap.size + 1, 0, none⟩) 2 2) [x, y] ((w.alloc o).alloc (.cells #[S x, S y] 9)) := by
  have := rd_two x y (w.alloc o); rwa [World.size_alloc] at this
theorem below_lit {w W W' : World} {o : Obj} (h : Below w.heap.size w W) (k : Below (W.alloc o).heap.size (W.alloc o) W') : Below w.heap.size w W' := below5 (h.alloc h.size o) k

abbrev kn : List (List UInt8) := [[97], [66], [99]]
abbrev km : List (List UInt8) := [[120]]
abbrev ks : List (List UInt8) := [[97], [66], [100], [101]]
theorem nb_lit {l : List (List UInt8)} (h : (decide (l.length ≤ 1000) && l.all fun x => decide (x.length ≤ 1000)) = true) : NB l := by
  simp only [Bool.and_eq_true, decide_eq_true_eq, List.all_eq_true] at h; exact h

end Go.Proofs.YtneghhbclefmoaaGreat
end
section
/- The walk of NameParse; a name among the arguments. -/
namespace Go.Proofs.YtneghhbclefmoaaGreat
open Go.RowKit Go.Shelf Go.ChangeShapes Go.WideShapes
set_option maxRecDepth 100000

theorem open_N {H : Type} {enc : TypeId × Value → H} {W : World} {base : Nat} {sp : Nat → Bool} {held : Bool} {r : Reach} {b0 : Nat} {v : Value} {d : DataW H} {ps : List MemPlace} (hval : Value.okWide Tryz.prog W r b0 23 v) (hd : DataW.Trod enc Tryz.prog W base sp held 23 v d ps) : ∃ l, Rd v l W := by
  obtain ⟨a0, len, cap, rfl⟩ := okWide_slice Tryz.underlying23 hval
  obtain ⟨fuel, hf⟩ := hd
  rcases open_strings Tryz.underlying23 Tryz.underlying9 (by kernel_rfl) hf with ⟨hcs, hx⟩ | ⟨a, len', cap', ss, hcs, _, hl, hm, hz, hx, hcell, hws⟩
  · simp [Value.cells] at hcs
    obtain ⟨rfl, rfl, rfl⟩ := hcs
    exact ⟨[], Rd.nil W⟩
  · simp [Value.cells] at hcs
    obtain ⟨rfl, rfl, rfl⟩ := hcs
    have hlen : len ≤ ss.length := by rw [hz]; split <;> omega
    refine ⟨(ss.take len).map fun s => s.data.toList, some a, cap, by simp [Nat.min_eq_left hlen], by simp; omega, hm, (fun h => by cases h), fun j hj => ⟨a, rfl, ?_⟩⟩
    simp only [List.length_map, List.length_take] at hj
    rw [hcell j (by omega)]
    simp [S, List.getD, List.getElem?_eq_getElem (show j < ss.length by omega)]

theorem Lb.splitF_len : ∀ (m : Nat) (s cur : List UInt8) (l : List (List UInt8)), s.length ≤ m → Lb.splitF cur s = some l → l.length ≤ s.length + 1 ∧ ∀ x ∈ l, x.length ≤ cur.length + s.length
  | _, [], cur, l, _, h => by simp only [Lb.splitF, Option.some.injEq] at h; subst h; simp
  | 0, c :: r, cur, l, hm, _ => by simp at hm
  | m + 1, c :: r, cur, l, hm, h => by
    simp only [List.length_cons] at hm ⊢
    unfold Lb.splitF at h
    split at h
    · obtain ⟨y, hy, he⟩ := Option.map_eq_some_iff.1 h
      have := Lb.splitF_len m r [] y (by omega) hy
      subst he
      refine ⟨by simp; omega, fun x hx => ?_⟩
      rcases List.mem_cons.1 hx with rfl | hx
      · omega
      · have := this.2 x hx; simp at this; omega
    · split at h
      · match r, hm, h with
        | [], _, h => cases h
        | d :: r, hm, h =>
          simp only [List.length_cons] at hm ⊢
          have := Lb.splitF_len m r _ l (by omega) h
          refine ⟨by omega, fun x hx => ?_⟩
          have := this.2 x hx; simp at this; omega
      · have := Lb.splitF_len m r _ l (by omega) h
        refine ⟨by omega, fun x hx => ?_⟩
        have := this.2 x hx; simp at this; omega
theorem Lb.split_len {s l} (h : Lb.split s = some l) : l.length ≤ s.length + 1 ∧ ∀ x ∈ l, x.length ≤ s.length := by
  have := Lb.splitF_len s.length s [] l (Nat.le_refl _) h
  simpa using this
theorem Nm.partsF_len : ∀ (l : List (List UInt8)) (n : List (List UInt8)) (b : Bool), Nm.partsF l = .ok (n, b) → n.length ≤ l.length ∧ ∀ x ∈ n, x.length ≤ 63
  | [], n, b, h => by simp only [Nm.partsF, Except.ok.injEq, Prod.mk.injEq] at h; obtain ⟨rfl, _⟩ := h; simp
  | p :: r, n, b, h => by
    unfold Nm.partsF at h
    split at h
    · simp only [Except.ok.injEq, Prod.mk.injEq] at h; obtain ⟨rfl, _⟩ := h; simp
    · split at h
      · rename_i hz
        rcases hr : Nm.partsF r with e | ⟨m, b'⟩
        · rw [hr] at h; cases h
        · rw [hr] at h
          simp only [Except.map, Except.ok.injEq, Prod.mk.injEq] at h
          obtain ⟨rfl, _⟩ := h
          have := Nm.partsF_len r m b' hr
          refine ⟨by simp; omega, fun x hx => ?_⟩
          rcases List.mem_cons.1 hx with rfl | hx
          · exact Lb.parse_len hz
          · exact this.2 x hx
      · cases h
theorem nb_nil : NB [] := ⟨by simp, fun x h => by cases h⟩
theorem Nm.parse_nb {s : List UInt8} {n : List (List UInt8)} (hn : NB n) (hn1 : n.length ≤ 200) (hl : ∀ l, Lb.split s = some l → l.length ≤ 800) : NB (Nm.parse s n).1 := by
  have hf : ∀ m, NB m → NB (Nm.fin m).1 := fun m hm => by unfold Nm.fin; split; exact hm; exact nb_nil
  unfold Nm.parse
  split
  · exact hn
  · split
    · exact nb_nil
    · split
      · exact nb_nil
      · rcases hp : Nm.parts s with e | ⟨m, b⟩
        · exact nb_nil
        · unfold Nm.parts at hp
          rcases hsp : Lb.split s with _ | l
          · rw [hsp] at hp; cases hp
          · rw [hsp] at hp
            have h1 := hl l hsp
            have h2 := Nm.partsF_len l m b hp
            have hm : NB m := NB.short (by omega) h2.2
            cases b
            · exact hf _ (hm.append hn (by omega))
            · exact hf _ hm
theorem Nm.few_len {n} (h : Nm.few n = true) : n.length ≤ 140 := by
  unfold Nm.few at h; simp only [Bool.and_eq_true, decide_eq_true_eq] at h; exact h.1

end Go.Proofs.YtneghhbclefmoaaGreat
end
section
/- Plain laws of names; the walks of NameText, NameTwo. -/
namespace Go.Proofs.YtneghhbclefmoaaGreat
open Go.RowKit Go.Shelf
set_option maxRecDepth 100000

/-! ### a name in words, and back -/
theorem Nm.words_split : ∀ (n : List (List UInt8)) (cur : List UInt8), Lb.splitF cur (Nm.words n) = some (match n with
    | [] => [cur]
    | x :: r => (cur ++ Lb.text x) :: (r.map Lb.text ++ [[]]))
  | [], cur => by simp [Nm.words, Lb.splitF]
  | x :: r, cur => by
    show Lb.splitF cur (Lb.text x ++ 46 :: Nm.words r) = _
    rw [Lb.splitF_text, Lb.splitF.eq_def]
    simp only [if_true]
    rw [Nm.words_split r []]
    cases r with
    | nil => rfl
    | cons y r => simp
theorem Nm.split_words {n : List (List UInt8)} (h : n ≠ []) : Lb.split (Nm.words n) = some (n.map Lb.text ++ [[]]) := by
  unfold Lb.split
  rw [Nm.words_split]
  cases n with
  | nil => exact absurd rfl h
  | cons x r => simp
theorem Nm.check0_all : ∀ (n : List (List UInt8)), Nm.check0 n = 0 → ∀ x ∈ n, Lb.check x.length = 0
  | [], _, x, hx => by cases hx
  | y :: r, h, x, hx => by
    unfold Nm.check0 at h
    split at h
    · rename_i hy
      rcases List.mem_cons.1 hx with rfl | hx
      · exact hy
      · exact Nm.check0_all r h x hx
    · rename_i hy; exact absurd h hy
theorem Nm.check_zero {n : List (List UInt8)} (h : Nm.check n = 0) : Nm.check0 n = 0 ∧ Nm.len n ≤ 255 := by
  unfold Nm.check at h
  split at h
  · rename_i h0
    split at h
    · cases h
    · exact ⟨h0, by omega⟩
  · rename_i h0; exact absurd h h0
theorem Lb.check_zero {m : Nat} (h : Lb.check m = 0) : 0 < m ∧ m ≤ 63 := by
  unfold Lb.check at h
  split at h
  · cases h
  · split at h
    · cases h
    · omega
theorem Lb.text_ne {x : List UInt8} (h : 0 < x.length) : Lb.text x ≠ [] := by
  cases x with
  | nil => simp at h
  | cons c r =>
    show Lb.textC c ++ Lb.text r ≠ []
    unfold Lb.textC
    split
    · simp [Lb.esc]
    · split <;> simp
theorem Nm.partsF_words : ∀ (n : List (List UInt8)), (∀ x ∈ n, Lb.check x.length = 0) → Nm.partsF (n.map Lb.text ++ [[]]) = .ok (n, true)
  | [], _ => by simp [Nm.partsF]
  | x :: r, h => by
    have hx := h x (List.mem_cons_self ..)
    have hr := Nm.partsF_words r (fun y hy => h y (List.mem_cons_of_mem _ hy))
    have hp : Lb.parse (Lb.text x) = (x, 0) := by rw [Lb.parse_text, if_pos hx]
    show Nm.partsF (Lb.text x :: (r.map Lb.text ++ [[]])) = _
    rw [Nm.partsF, if_neg, hp, if_pos rfl, hr]
    · rfl
    · rintro ⟨_, h2⟩; simp at h2
theorem Nm.words_ne {n : List (List UInt8)} (h : n ≠ []) (hc : ∀ x ∈ n, Lb.check x.length = 0) : Nm.words n ≠ [64] ∧ Nm.words n ≠ [46] ∧ Nm.words n ≠ [] := by
  cases n with
  | nil => exact absurd rfl h
  | cons x r =>
    have hx := Lb.text_ne (Lb.check_zero (hc x (List.mem_cons_self ..))).1
    have hl : 0 < (Lb.text x).length := List.length_pos_iff.2 hx
    refine ⟨fun e => ?_, fun e => ?_, fun e => ?_⟩
    all_goals
      have := congrArg List.length e
      simp [Nm.words] at this
      try omega
theorem Nm.parse_text {n origin : List (List UInt8)} (h : Nm.check n = 0) : Nm.parse (Nm.text n) origin = (n, 0) := by
  obtain ⟨h0, hl⟩ := Nm.check_zero h
  have hc := Nm.check0_all n h0
  by_cases hn : n = []
  · subst hn; simp [Nm.text, Nm.parse]
  · obtain ⟨w1, w2, w3⟩ := Nm.words_ne hn hc
    rw [Nm.text_pos hn]
    unfold Nm.parse Nm.parts
    rw [if_neg w1, if_neg w2, if_neg w3, Nm.split_words hn]
    simp only [Nm.partsF_words n hc]
    unfold Nm.fin
    rw [if_pos h]

/-! ### the order of names -/
theorem Nm.cmpR_anti : ∀ (a b : List (List UInt8)), Nm.cmpR b a = 0 - Nm.cmpR a b
  | [], [] => rfl
  | [], _ :: _ => rfl
  | _ :: _, [] => rfl
  | x :: a, y :: b => by
    have h : cmpL y x = 0 - cmpL x y := by unfold cmpL; rw [cmp_anti]; omega
    unfold Nm.cmpR
    by_cases h0 : cmpL x y = 0
    · rw [if_pos h0, if_pos (by omega)]; exact Nm.cmpR_anti a b
    · rw [if_neg h0, if_neg (by omega)]; exact h
theorem Nm.cmp_anti (a b : List (List UInt8)) : Nm.cmp b a = 0 - Nm.cmp a b := Nm.cmpR_anti _ _
theorem Nm.cmpR_zero : ∀ (a b : List (List UInt8)), (Nm.cmpR a b = 0) ↔ a.map Lb.fold = b.map Lb.fold
  | [], [] => by simp [Nm.cmpR]
  | [], _ :: _ => by simp [Nm.cmpR]
  | _ :: _, [] => by simp [Nm.cmpR]
  | x :: a, y :: b => by
    have h : cmpL x y = 0 ↔ Lb.fold x = Lb.fold y := by unfold cmpL; exact cmp_eq_zero _ _
    have ih := Nm.cmpR_zero a b
    unfold Nm.cmpR
    by_cases h0 : cmpL x y = 0
    · rw [if_pos h0, ih]; simp [h.1 h0]
    · rw [if_neg h0]
      simp only [List.map_cons, List.cons.injEq]
      exact ⟨fun e => absurd e h0, fun e => absurd (h.2 e.1) h0⟩
theorem Nm.cmp_zero (a b : List (List UInt8)) : (Nm.cmp a b == 0) = Nm.same a b := by
  rw [Bool.eq_iff_iff, beq_iff_eq]
  unfold Nm.cmp Nm.same Nm.fold
  rw [Nm.cmpR_zero, beq_iff_eq, List.map_reverse, List.map_reverse]
  exact ⟨fun h => List.reverse_inj.1 h, fun h => by rw [h]⟩
end Go.Proofs.YtneghhbclefmoaaGreat
end
section
/- The walk of NameText. -/
namespace Go.Proofs.YtneghhbclefmoaaGreat
open Go.RowKit Go.Shelf
set_option maxRecDepth 100000

/-- both names are read, none is long; else the law returns at once -/
theorem few_nb {n : List (List UInt8)} (h : Nm.few n = true) : NB n ∧ n.length ≤ 140 := ⟨NB.few h, Nm.few_len h⟩
theorem Nm.text_split {n : List (List UInt8)} (hn : NB n) (hn1 : n.length ≤ 140) : ∀ l, Lb.split (Nm.text n) = some l → l.length ≤ 800 ∧ ∀ x ∈ l, x.length ≤ 1000000 := by
  intro l h
  by_cases h0 : n = []
  · subst h0
    have := Lb.split_len h
    rw [Nm.text_nil] at this
    exact ⟨by have := this.1; simp at this; omega, fun x hx => by have := this.2 x hx; simp at this; omega⟩
  · rw [Nm.text_pos h0, Nm.split_words h0] at h
    cases h
    refine ⟨by simp; omega, fun x hx => ?_⟩
    rcases List.mem_append.1 hx with hx | hx
    · obtain ⟨y, hy, rfl⟩ := List.mem_map.1 hx
      have := hn.2 y hy; have := Lb.text_len y; omega
    · rw [List.mem_singleton.1 hx]; simp
theorem Nm.text_len_few {n : List (List UInt8)} (h : Nm.few n = true) : (Nm.text n).length ≤ 1000000 := by
  unfold Nm.few at h
  simp only [Bool.and_eq_true, decide_eq_true_eq, List.all_eq_true] at h
  obtain ⟨h1, h2⟩ := h
  have : ∀ n : List (List UInt8), (∀ x ∈ n, x.length ≤ 100) → (Nm.words n).length ≤ 401 * n.length := by
    intro n
    induction n with
    | nil => simp [Nm.words]
    | cons x r ih =>
      intro h
      have h1 := ih (fun y hy => h y (List.mem_cons_of_mem _ hy))
      have h2 := h x (List.mem_cons_self ..)
      have h3 := Lb.text_len x
      simp only [Nm.words, List.length_append, List.length_cons]; omega
  have := this n h2
  by_cases h0 : n = []
  · subst h0; simp [Nm.text]
  · rw [Nm.text_pos h0]; omega

end Go.Proofs.YtneghhbclefmoaaGreat
end
section
/- Plain laws of names: order, below, meeting, other ends, parts. -/
namespace Go.Proofs.YtneghhbclefmoaaGreat
open Go.RowKit Go.Shelf
set_option maxRecDepth 100000

/-! ### the order -/
theorem cmpL_zero (x y : List UInt8) : cmpL x y = 0 ↔ Lb.fold x = Lb.fold y := by unfold cmpL; exact cmp_eq_zero _ _
theorem cmpL_anti (x y : List UInt8) : cmpL y x = - cmpL x y := by unfold cmpL; exact cmp_anti _ _
theorem cmpL_left {x y : List UInt8} (h : cmpL x y = 0) (z : List UInt8) : cmpL x z = cmpL y z := by unfold cmpL; rw [(cmpL_zero x y).1 h]
theorem cmpL_right {y z : List UInt8} (h : cmpL y z = 0) (x : List UInt8) : cmpL x y = cmpL x z := by unfold cmpL; rw [(cmpL_zero y z).1 h]
theorem cmpL_lt {x y z : List UInt8} (h : cmpL x y < 0) (k : cmpL y z < 0) : cmpL x z < 0 := by
  have h1 : cmpL x z ≤ 0 := by unfold cmpL at *; exact cmp_trans _ (Lb.fold y) _ (by omega) (by omega)
  have h2 : cmpL x z ≠ 0 := fun e => by
    have := cmpL_right e y
    have := cmpL_anti x y
    omega
  omega
theorem Nm.cmpR_trans : ∀ (a b c : List (List UInt8)), Nm.cmpR a b ≤ 0 → Nm.cmpR b c ≤ 0 → Nm.cmpR a c ≤ 0
  | [], _, [], _, _ => by simp [Nm.cmpR]
  | [], _, _ :: _, _, _ => by simp [Nm.cmpR]
  | _ :: _, [], _, h, _ => by simp [Nm.cmpR] at h
  | _ :: _, _ :: _, [], _, h => by simp [Nm.cmpR] at h
  | x :: a, y :: b, z :: c, h, k => by
    unfold Nm.cmpR at h k ⊢
    by_cases h0 : cmpL x y = 0
    · rw [if_pos h0] at h
      rw [cmpL_left h0 z]
      by_cases k0 : cmpL y z = 0
      · rw [if_pos k0] at k ⊢
        exact Nm.cmpR_trans a b c h k
      · rw [if_neg k0] at k ⊢
        exact k
    · rw [if_neg h0] at h
      by_cases k0 : cmpL y z = 0
      · rw [← cmpL_right k0 x, if_neg h0]; exact h
      · rw [if_neg k0] at k
        have := cmpL_lt (x := x) (y := y) (z := z) (by omega) (by omega)
        rw [if_neg (by omega)]; omega
theorem Nm.cmp_trans {a b c : List (List UInt8)} (h : Nm.cmp a b ≤ 0) (k : Nm.cmp b c ≤ 0) : Nm.cmp a c ≤ 0 := Nm.cmpR_trans _ _ _ h k
theorem Nm.cmpR_range : ∀ (a b : List (List UInt8)), -1 ≤ Nm.cmpR a b ∧ Nm.cmpR a b ≤ 1
  | [], [] => by simp [Nm.cmpR]
  | [], _ :: _ => by simp [Nm.cmpR]
  | _ :: _, [] => by simp [Nm.cmpR]
  | x :: a, y :: b => by
    unfold Nm.cmpR
    split
    · exact Nm.cmpR_range a b
    · have := cmp_range (Lb.fold x) (Lb.fold y)
      unfold cmpL; omega
theorem Nm.cmp_range (a b : List (List UInt8)) : -1 ≤ Nm.cmp a b ∧ Nm.cmp a b ≤ 1 := Nm.cmpR_range _ _
theorem Nm.cmpR_app : ∀ (p q r s : List (List UInt8)), p.map Lb.fold = q.map Lb.fold → Nm.cmpR (p ++ r) (q ++ s) = Nm.cmpR r s
  | [], [], _, _, _ => rfl
  | [], _ :: _, _, _, h => by simp at h
  | _ :: _, [], _, _, h => by simp at h
  | x :: p, y :: q, r, s, h => by
    simp only [List.map_cons, List.cons.injEq] at h
    simp only [List.cons_append]
    rw [Nm.cmpR, if_pos ((cmpL_zero x y).2 h.1)]
    exact Nm.cmpR_app p q r s h.2

/-! ### below -/
theorem Nm.fold_length (n : List (List UInt8)) : (Nm.fold n).length = n.length := by simp [Nm.fold]
theorem Nm.fold_drop (n : List (List UInt8)) (k : Nat) : Nm.fold (n.drop k) = (Nm.fold n).drop k := by simp [Nm.fold, List.map_drop]
theorem Nm.fold_append (a b : List (List UInt8)) : Nm.fold (a ++ b) = Nm.fold a ++ Nm.fold b := by simp [Nm.fold]
theorem Nm.fold_fold (n : List (List UInt8)) : Nm.fold (Nm.fold n) = Nm.fold n := by
  unfold Nm.fold; rw [List.map_map]; exact List.map_congr_left fun x _ => _root_.Go.Proofs.YtneghhbclefmoaaGreat.fold_fold x
theorem Nm.same_fold (n : List (List UInt8)) : Nm.same n (Nm.fold n) = true := by unfold Nm.same; rw [Nm.fold_fold]; simp
theorem Nm.under_iff (n z : List (List UInt8)) : Nm.under n z = true ↔ Nm.fold z <:+ Nm.fold n := by
  unfold Nm.under Nm.same
  rw [Bool.and_eq_true, decide_eq_true_eq, beq_iff_eq, Nm.fold_drop]
  constructor
  · rintro ⟨_, h⟩
    exact h ▸ List.drop_suffix _ _
  · intro h
    have hl := h.length_le
    rw [Nm.fold_length, Nm.fold_length] at hl
    refine ⟨hl, ?_⟩
    have := List.suffix_iff_eq_drop.1 h
    rw [Nm.fold_length, Nm.fold_length] at this
    exact this.symm
theorem Nm.under_trans {a b c : List (List UInt8)} (h : Nm.under a b = true) (k : Nm.under b c = true) : Nm.under a c = true :=
  (Nm.under_iff a c).2 (((Nm.under_iff b c).1 k).trans ((Nm.under_iff a b).1 h))
theorem Nm.under_app (p n : List (List UInt8)) : Nm.under (p ++ n) n = true := (Nm.under_iff _ _).2 (by rw [Nm.fold_append]; exact List.suffix_append _ _)
theorem Nm.under_refl (n : List (List UInt8)) : Nm.under n n = true := (Nm.under_iff _ _).2 (List.suffix_refl _)
theorem Nm.under_cmp {a b : List (List UInt8)} (h : Nm.under a b = true) : 0 ≤ Nm.cmp a b := by
  obtain ⟨p, hp⟩ := (Nm.under_iff a b).1 h
  have hl : a.length = p.length + b.length := by
    have := congrArg List.length hp
    simp only [List.length_append, Nm.fold_length] at this; omega
  have e : a = a.take p.length ++ a.drop p.length := (List.take_append_drop _ _).symm
  have hd : Nm.fold (a.drop p.length) = Nm.fold b := by rw [Nm.fold_drop, ← hp]; simp
  unfold Nm.cmp
  rw [e, List.reverse_append]
  have := Nm.cmpR_app (a.drop p.length).reverse b.reverse (a.take p.length).reverse [] (by
    rw [List.map_reverse, List.map_reverse]; exact congrArg List.reverse hd)
  rw [List.append_nil] at this
  rw [this]
  cases (a.take p.length).reverse <;> simp [Nm.cmpR]

/-! ### meeting -/
theorem Nm.common_spec : ∀ (a b : List (List UInt8)), ∃ k, k ≤ a.length ∧ Nm.common a b = a.drop k ∧ Nm.under b (a.drop k) = true ∧ (0 < k → Nm.under b (a.drop (k - 1)) = false)
  | [], b => ⟨0, by simp, rfl, Nm.under_nil b, fun h => absurd h (by omega)⟩
  | x :: r, b => by
    rcases hu : Nm.under b (x :: r) with _ | _
    · obtain ⟨k, h1, h2, h3, h4⟩ := Nm.common_spec r b
      refine ⟨k + 1, by simp; omega, ?_, by simpa using h3, fun _ => ?_⟩
      · rw [Nm.common, if_neg (by rw [hu]; decide)]; simpa using h2
      · rcases Nat.eq_zero_or_pos k with rfl | hk
        · simpa using hu
        · have := h4 hk
          rw [show k + 1 - 1 = (k - 1) + 1 by omega]; simpa using this
    · exact ⟨0, by simp, by rw [Nm.common, if_pos hu]; rfl, by simpa using hu, fun h => absurd h (by omega)⟩
theorem Nm.common_nb {a : List (List UInt8)} (h : NB a) (b : List (List UInt8)) : NB (Nm.common a b) := by
  obtain ⟨k, _, e, _⟩ := Nm.common_spec a b
  rw [e]; exact h.drop k
theorem Nm.common_law (a b : List (List UInt8)) : Nm.under a (Nm.common a b) = true ∧ Nm.under b (Nm.common a b) = true ∧ (Nm.common a b).length ≤ a.length ∧ (Nm.common a b).length ≤ b.length ∧
    ((Nm.common a b).length ≠ a.length → Nm.under b (a.drop (a.length - (Nm.common a b).length - 1)) = false) := by
  obtain ⟨k, h1, e, h2, h3⟩ := Nm.common_spec a b
  have hl : (Nm.common a b).length = a.length - k := by rw [e]; simp
  refine ⟨?_, by rw [e]; exact h2, by omega, ?_, fun hne => ?_⟩
  · rw [e]
    have := Nm.under_app (a.take k) (a.drop k)
    rwa [List.take_append_drop] at this
  · rw [e] 
    have := ((Nm.under_iff _ _).1 h2).length_le
    rwa [Nm.fold_length, Nm.fold_length] at this
  · rw [hl] at hne ⊢
    rw [show a.length - (a.length - k) - 1 = k - 1 by omega]
    exact h3 (by omega)

/-! ### one more ahead -/
theorem Nm.child_not_under (l : List UInt8) (n : List (List UInt8)) : Nm.under n (l :: n) = false := by
  rcases h : Nm.under n (l :: n) with _ | _
  · rfl
  · have := ((Nm.under_iff _ _).1 h).length_le
    rw [Nm.fold_length, Nm.fold_length, List.length_cons] at this; omega
theorem Nm.child_cmp (l : List UInt8) (n : List (List UInt8)) : Nm.cmp n (l :: n) = -1 := by
  unfold Nm.cmp
  rw [List.reverse_cons]
  have := Nm.cmpR_app n.reverse n.reverse [] [l] rfl
  rw [List.append_nil] at this
  rw [this]; rfl

/-! ### another end -/
theorem Nm.len_fold : ∀ (a b : List (List UInt8)), Nm.fold a = Nm.fold b → Nm.len a = Nm.len b
  | [], [], _ => rfl
  | [], _ :: _, h => by simp [Nm.fold] at h
  | _ :: _, [], h => by simp [Nm.fold] at h
  | x :: a, y :: b, h => by
    simp only [Nm.fold, List.map_cons, List.cons.injEq] at h
    have h1 := congrArg List.length h.1
    rw [_root_.Go.Proofs.YtneghhbclefmoaaGreat.fold_length, _root_.Go.Proofs.YtneghhbclefmoaaGreat.fold_length] at h1
    have := Nm.len_fold a b h.2
    simp only [Nm.len]; omega
theorem Nm.check0_fold : ∀ (a b : List (List UInt8)), Nm.fold a = Nm.fold b → Nm.check0 a = Nm.check0 b
  | [], [], _ => rfl
  | [], _ :: _, h => by simp [Nm.fold] at h
  | _ :: _, [], h => by simp [Nm.fold] at h
  | x :: a, y :: b, h => by
    simp only [Nm.fold, List.map_cons, List.cons.injEq] at h
    have h1 := congrArg List.length h.1
    rw [_root_.Go.Proofs.YtneghhbclefmoaaGreat.fold_length, _root_.Go.Proofs.YtneghhbclefmoaaGreat.fold_length] at h1
    have := Nm.check0_fold a b h.2
    simp only [Nm.check0, h1, this]
theorem Nm.check_fold {a b : List (List UInt8)} (h : Nm.fold a = Nm.fold b) : Nm.check a = Nm.check b := by
  unfold Nm.check; rw [Nm.len_fold a b h, Nm.check0_fold a b h]
theorem Nm.swap_okay {n f t s : List (List UInt8)} (h : Nm.swap n f t = (s, 0)) : Nm.under n f = true ∧ s = n.take (n.length - f.length) ++ t ∧ Nm.check s = 0 := by
  unfold Nm.swap at h
  split at h
  · rename_i hu
    split at h
    · rename_i hc
      simp only [Prod.mk.injEq] at h
      obtain ⟨rfl, _⟩ := h
      exact ⟨hu, rfl, hc⟩
    · simp at h
  · simp at h
theorem Nm.swap_back {n f t s : List (List UInt8)} (h : Nm.swap n f t = (s, 0)) (hn : Nm.check n = 0) : ∃ b, Nm.swap s t f = (b, 0) ∧ Nm.same b n = true ∧ Nm.under s t = true ∧ b = n.take (n.length - f.length) ++ f := by
  obtain ⟨hu, rfl, hc⟩ := Nm.swap_okay h
  have hu' := hu
  unfold Nm.under at hu'
  rw [Bool.and_eq_true, decide_eq_true_eq] at hu'
  obtain ⟨hl, hs⟩ := hu'
  unfold Nm.same at hs
  rw [beq_iff_eq] at hs
  have hf : Nm.fold (n.take (n.length - f.length) ++ f) = Nm.fold n := by
    rw [Nm.fold_append, ← hs, ← Nm.fold_append, List.take_append_drop]
  refine ⟨_, ?_, ?_, Nm.under_app _ _, rfl⟩
  · unfold Nm.swap
    rw [if_pos (Nm.under_app _ _)]
    have hk : (n.take (n.length - f.length) ++ t).length - t.length = (n.take (n.length - f.length)).length := by simp
    rw [hk, List.take_left, if_pos (by rw [Nm.check_fold hf]; exact hn)]
  · unfold Nm.same; rw [hf]; simp
theorem Nm.swap_nb {n f t : List (List UInt8)} (hn : NB n) (ht : NB t) (h : n.length + t.length ≤ 1000) : NB (Nm.swap n f t).1 ∧ (Nm.swap n f t).1.length ≤ n.length + t.length := by
  unfold Nm.swap
  split
  · split
    · exact ⟨(hn.take _).append ht (by simp; omega), by simp⟩
    · exact ⟨nb_nil, by simp⟩
  · exact ⟨nb_nil, by simp⟩

/-! ### relative to an origin -/
theorem Nm.words_jn : ∀ (n : List (List UInt8)), n ≠ [] → Nm.words n = Lb.jn n ++ [46]
  | [], h => absurd rfl h
  | [x], _ => by simp [Nm.words, Lb.jn]
  | x :: y :: r, _ => by
    have := Nm.words_jn (y :: r) (by simp)
    rw [Nm.words, this]
    simp [Lb.jn]
theorem Lb.textC_not (c d : UInt8) (hd : d ∈ Lb.marks) : Lb.textC c ≠ [d] := by
  unfold Lb.textC Lb.esc
  split
  · simp
  · split
    · simp
    · rename_i _ h
      intro e; cases e; exact h hd
theorem Lb.textC_pos (c : UInt8) : 0 < (Lb.textC c).length := by
  unfold Lb.textC Lb.esc; split
  · simp
  · split <;> simp
theorem Lb.text_not (x : List UInt8) (d : UInt8) (hd : d ∈ Lb.marks) : Lb.text x ≠ [d] := by
  intro h
  cases x with
  | nil => cases h
  | cons c r =>
    have h' : Lb.textC c ++ Lb.text r = [d] := h
    have hp := Lb.textC_pos c
    have hl := congrArg List.length h'
    rw [List.length_append] at hl
    simp only [List.length_cons, List.length_nil] at hl
    have : Lb.text r = [] := List.length_eq_zero_iff.1 (by omega)
    rw [this, List.append_nil] at h'
    exact Lb.textC_not c d hd h'
theorem Nm.jn_ne {n : List (List UInt8)} (h : n ≠ []) (hc : ∀ x ∈ n, Lb.check x.length = 0) : Lb.jn n ≠ [64] ∧ Lb.jn n ≠ [46] ∧ Lb.jn n ≠ [] := by
  cases n with
  | nil => exact absurd rfl h
  | cons x r =>
    have hx := Lb.text_ne (Lb.check_zero (hc x (List.mem_cons_self ..))).1
    cases r with
    | nil =>
      have e : Lb.jn [x] = Lb.text x := by simp [Lb.jn]
      rw [e]
      exact ⟨Lb.text_not x 64 (by decide), Lb.text_not x 46 (by decide), hx⟩
    | cons y r =>
      have hl : 0 < (Lb.text x).length := List.length_pos_iff.2 hx
      have hy := Lb.text_ne (Lb.check_zero (hc y (by simp))).1
      have hl' : 0 < (Lb.text y).length := List.length_pos_iff.2 hy
      have e : 2 ≤ (Lb.jn (x :: y :: r)).length := by
        have e1 : Lb.jn (x :: y :: r) = Lb.text x ++ 46 :: (Lb.jn (y :: r)) := by simp [Lb.jn]
        rw [e1]; simp; omega
      refine ⟨fun h => ?_, fun h => ?_, fun h => ?_⟩ <;> (rw [h] at e; simp at e)
theorem Nm.partsF_jn : ∀ (n : List (List UInt8)), (∀ x ∈ n, Lb.check x.length = 0) → Nm.partsF (n.map Lb.text) = .ok (n, false)
  | [], _ => by simp [Nm.partsF]
  | x :: r, h => by
    have hx := h x (List.mem_cons_self ..)
    have hr := Nm.partsF_jn r (fun y hy => h y (List.mem_cons_of_mem _ hy))
    have hp : Lb.parse (Lb.text x) = (x, 0) := by rw [Lb.parse_text, if_pos hx]
    show Nm.partsF (Lb.text x :: (r.map Lb.text)) = _
    rw [Nm.partsF, if_neg, hp, if_pos rfl, hr]
    · rfl
    · rintro ⟨h1, _⟩; exact Lb.text_ne (Lb.check_zero hx).1 h1
theorem Nm.parse_jn {n origin : List (List UInt8)} (hn : n ≠ []) (h : Nm.check n = 0) : Nm.parse (Lb.jn n) origin = Nm.fin (n ++ origin) := by
  obtain ⟨h0, hl⟩ := Nm.check_zero h
  have hc := Nm.check0_all n h0
  obtain ⟨w1, w2, w3⟩ := Nm.jn_ne hn hc
  unfold Nm.parse Nm.parts
  rw [if_neg w1, if_neg w2, if_neg w3, Lb.split_jn n (List.length_pos_iff.2 hn)]
  simp only [Nm.partsF_jn n hc]
theorem Nm.check0_append : ∀ (a b : List (List UInt8)), Nm.check0 a = 0 → Nm.check0 (a ++ b) = Nm.check0 b
  | [], _, _ => rfl
  | x :: a, b, h => by
    unfold Nm.check0 at h
    split at h
    · rename_i hx
      rw [List.cons_append, Nm.check0, if_pos hx]; exact Nm.check0_append a b h
    · rename_i hx; exact absurd h hx
theorem Nm.check_append {a b : List (List UInt8)} (ha : Nm.check a = 0) (hb : Nm.check b = 0) : Nm.check (a ++ b) = 0 ∨ Nm.check (a ++ b) = 3 := by
  have h := Nm.check0_append a b (Nm.check_zero ha).1
  rw [(Nm.check_zero hb).1] at h
  unfold Nm.check
  rw [if_pos h]; split
  · exact .inr rfl
  · exact .inl rfl
end Go.Proofs.YtneghhbclefmoaaGreat
end
