import Derived.Test.YtneghhbclefmoaaGreatJLabSpec
import Derived.Test.YtneghhbclefmoaaGreatJLabA
import Derived.Test.YtneghhbclefmoaaGreatJReg
section
/- A text parted at its dots, plainly. -/
namespace Go.Proofs.YtneghhbclefmoaaGreat.Lb
/-! ### parted at its dots -/
/-- 'cur': the part that is being read -/
def splitF (cur : List UInt8) : List UInt8 → Option (List (List UInt8))
  | [] => some [cur]
  | c :: r => if c = 46 then (splitF [] r).map (cur :: ·)
    else if c = 92 then (match r with
      | [] => none
      | d :: r => splitF (cur ++ [92, d]) r)
    else splitF (cur ++ [c]) r
def split (l : List UInt8) : Option (List (List UInt8)) := splitF [] l

/-- where the parting stands at k: the parts that are done, where the part begins that is being read, whether a stroke stood last -/
def SpI (s : List UInt8) (parts : List (List UInt8)) (fr : Nat) (taken : Bool) (k : Nat) : Prop :=
  fr ≤ k ∧ k ≤ s.length ∧ (taken = false → split s = (splitF ((s.drop fr).take (k - fr)) (s.drop k)).map (parts ++ ·)) ∧
    (taken = true → fr + 1 ≤ k ∧ s[k - 1]? = some 92 ∧ split s = (splitF ((s.drop fr).take (k - 1 - fr)) (92 :: s.drop k)).map (parts ++ ·))
theorem SpI.start (s : List UInt8) : SpI s [] 0 false 0 :=
  ⟨by omega, by omega, fun _ => by simp [split], fun h => by cases h⟩
theorem take_snoc (s : List UInt8) (fr k : Nat) (h : k < s.length) (hf : fr ≤ k) : (s.drop fr).take (k + 1 - fr) = (s.drop fr).take (k - fr) ++ [s[k]] := by
  rw [show k + 1 - fr = (k - fr) + 1 by omega, List.take_succ_eq_append_getElem (by simp; omega)]
  congr 2
  simp [List.getElem_drop]
  congr 1; omega
theorem SpI.plain {s parts fr k} (h : SpI s parts fr false k) (hk : k < s.length) (h1 : s[k] ≠ 92) (h2 : s[k] ≠ 46) : SpI s parts fr false (k + 1) := by
  obtain ⟨a, b, c, _⟩ := h
  refine ⟨by omega, by omega, fun _ => ?_, fun h => by cases h⟩
  rw [c rfl, List.drop_eq_getElem_cons hk, splitF.eq_def]
  simp only [h1, h2, if_false]
  rw [take_snoc s fr k hk a]
theorem SpI.stroke {s parts fr k} (h : SpI s parts fr false k) (hk : k < s.length) (h1 : s[k] = 92) : SpI s parts fr true (k + 1) := by
  obtain ⟨a, b, c, _⟩ := h
  refine ⟨by omega, by omega, fun h => (by cases h), fun _ => ⟨by omega, by simp [hk, h1], ?_⟩⟩
  rw [c rfl, List.drop_eq_getElem_cons hk, h1]; rfl
theorem SpI.taken {s parts fr k} (h : SpI s parts fr true k) (hk : k < s.length) : SpI s parts fr false (k + 1) := by
  obtain ⟨a, b, _, d⟩ := h
  obtain ⟨d1, d0, d2⟩ := d rfl
  refine ⟨by omega, by omega, fun _ => ?_, fun h => by cases h⟩
  rw [d2, List.drop_eq_getElem_cons hk, splitF.eq_def]
  simp only [show (92 : UInt8) ≠ 46 by decide, if_false, if_true]
  have h92 : s[k - 1]'(by omega) = 92 := by
    have := List.getElem?_eq_getElem (l := s) (i := k - 1) (by omega); rw [this] at d0; exact Option.some.inj d0
  have e1 := take_snoc s fr k hk (by omega)
  have e2 := take_snoc s fr (k - 1) (by omega) (by omega)
  rw [show k - 1 + 1 - fr = k - fr by omega, h92] at e2
  rw [e1, e2, List.append_assoc]; rfl
theorem SpI.dot {s parts fr k} (h : SpI s parts fr false k) (hk : k < s.length) (h1 : s[k] = 46) : SpI s (parts ++ [(s.drop fr).take (k - fr)]) (k + 1) false (k + 1) := by
  obtain ⟨a, b, c, _⟩ := h
  refine ⟨by omega, by omega, fun _ => ?_, fun h => by cases h⟩
  rw [c rfl, List.drop_eq_getElem_cons hk, splitF.eq_def]
  simp only [h1, if_true]
  rw [Option.map_map, Nat.sub_self, List.take_zero]
  congr 1
  funext x
  simp
theorem SpI.fail {s parts fr} (h : SpI s parts fr true s.length) : split s = none := by
  obtain ⟨_, _, _, d⟩ := h
  rw [(d rfl).2.2, List.drop_length]; rfl
theorem SpI.done {s parts fr} (h : SpI s parts fr false s.length) : split s = some (parts ++ [s.drop fr]) := by
  obtain ⟨a, _, c, _⟩ := h
  rw [c rfl, List.drop_length, List.take_of_length_le (by simp)]; rfl
end Go.Proofs.YtneghhbclefmoaaGreat.Lb
end
section
/- label.Split. -/
namespace Go.Proofs.YtneghhbclefmoaaGreat
open Go.RowKit Go.Shelf
set_option maxRecDepth 100000
attribute [local go_sem] Oper.semAt_some

theorem Tryz.info_str : (Tryz.prog.info? 9).map (fun i => (i.zero, i.size, i.bytes)) = some (some (.string ⟨#[]⟩), 1, 16) := by kernel_rfl

/-- where the row of parts may lie -/
def SpR (B : Nat) (g : Nat) : Prop := g = B + 1 ∨ B + 8 ≤ g
/-- memory between two rounds of Split -/
structure SpM (B : Nat) (w : World) (s : List UInt8) (parts : List (List UInt8)) (fr : Nat) (taken : Bool) (W : World) : Prop where
  bs : Box B 9 (S s) W
  row : ∃ v, Box (B + 2) 22 v W ∧ Row (SpR B) 9 1 v parts.length (parts.map S) W
  fr : Box (B + 3) 3 (.int .i64 fr) W
  tk : Box (B + 4) 4 (.bool taken) W
  it : Box (B + 5) 9 (S s) W
  below : Below B w W
  size : B + 6 ≤ W.heap.size
theorem SpM.put {B w s parts fr taken L W} (h : SpM B w s parts fr taken W) (hL : B ≤ L) {r : Loop} (hr : W.heap[L]? = some (.loop r)) (o : Obj) : SpM B w s parts fr taken (W.putObj L o) := by
  obtain ⟨v, h1, h2⟩ := h.row
  exact ⟨h.bs.put hr o, ⟨v, h1.put hr o, h2.put hr o⟩, h.fr.put hr o, h.tk.put hr o, h.it.put hr o, below_put h.below hL hr (by have := h.size; omega) o, by simpa using h.size⟩
theorem SpM.alloc {B w s parts fr taken W} (h : SpM B w s parts fr taken W) (o : Obj) : SpM B w s parts fr taken (W.alloc o) := by
  obtain ⟨v, h1, h2⟩ := h.row
  exact ⟨h.bs.alloc o, ⟨v, h1.alloc o, h2.alloc o⟩, h.fr.alloc o, h.tk.alloc o, h.it.alloc o, h.below.alloc (by have := h.size; omega) o, by have := h.size; simp; omega⟩
theorem SpM.setTk {B w s parts fr taken W} (h : SpM B w s parts fr taken W) (b : Bool) : SpM B w s parts fr b (W.setCell ⟨B + 4, 0, none⟩ (.bool b)) := by
  obtain ⟨v, h1, h2⟩ := h.row
  exact ⟨h.bs.setOther (by omega) _, ⟨v, h1.setOther (by omega) _, h2.setOther (by unfold SpR; omega) _⟩, h.fr.setOther (by omega) _, h.tk.set _, h.it.setOther (by omega) _, h.below.setCell (p := ⟨B + 4, 0, none⟩) (show B ≤ B + 4 by omega) _, by have := h.size; simpa [World.setCell] using this⟩

def SplI (B : Nat) (w : World) (s : List UInt8) (k : Nat) (W : World) : Prop := ∃ parts fr taken, Lb.SpI s parts fr taken k ∧ parts.length ≤ k ∧ SpM B w s parts fr taken W
theorem SplI.put {B w s L} (hL : B ≤ L) (k : Nat) (A : World) (r : Loop) (o : Obj) (h : SplI B w s k A) (hr : A.heap[L]? = some (.loop r)) : SplI B w s k (A.putObj L o) := by
  obtain ⟨parts, fr, taken, h1, h2, h3⟩ := h
  exact ⟨parts, fr, taken, h1, h2, h3.put hL hr o⟩

def SplitR (s : List UInt8) (v : Value) (z : Int) (W : World) : Prop := match Lb.split s with
  | some parts => z = 0 ∧ RdStrs v parts W
  | none => z = 2 ∧ v = .slice none 0 0

end Go.Proofs.YtneghhbclefmoaaGreat
end
section
/- The reference's Split. -/
namespace Go.Proofs.YtneghhbclefmoaaGreat
open Go.RowKit Go.Shelf
set_option maxRecDepth 100000

/-- at the loop's head of the reference's Split -/
def RspI (w : World) (s : List UInt8) (v i : Value) (W : World) : Prop :=
  ∃ (ps : List (List UInt8)) (cur : List UInt8) (k : Nat), k ≤ s.length ∧ i = .int .i64 k ∧ ps.length ≤ k ∧ cur.length ≤ k ∧ Lb.split s = (Lb.splitF cur (s.drop k)).map (ps ++ ·) ∧
    Row (fun g => w.heap.size ≤ g) 9 1 v (ps.length + 1) ((ps ++ [cur]).map S) W ∧ Below w.heap.size w W

theorem set_last (ps : List (List UInt8)) (cur x : List UInt8) : ((ps ++ [cur]).map S).set ps.length (S x) = (ps ++ [x]).map S := by
  simp
theorem RspI.step {w wr : World} {s : List UInt8} {ps : List (List UInt8)} {cur x : List UInt8} {g cap k : Nat} (d : Nat) (hb : Below w.heap.size w wr)
    (hr : Row (fun g => w.heap.size ≤ g) 9 1 (.slice (some ⟨g, 0, none⟩) (ps.length + 1) cap) (ps.length + 1) (((ps ++ [cur]).map S).set ps.length (S x)) (wr.setCell ⟨g, ps.length, none⟩ (S x)).drew)
    (hk : k + d ≤ s.length) (hx : x.length ≤ k + d) (hpl : ps.length ≤ k) (_ : 0 ≤ k) (hs : Lb.split s = (Lb.splitF x (s.drop (k + d))).map (ps ++ ·)) :
    RspI w s (.slice (some ⟨g, 0, none⟩) (ps.length + 1) cap) (.int .i64 ((k : Int) + (d : Nat))) (wr.setCell ⟨g, ps.length, none⟩ (S x)).drew := by
  rw [set_last] at hr
  exact ⟨ps, x, k + d, hk, by go_num, by omega, hx, hs, hr, (hb.setCell (p := ⟨g, ps.length, none⟩) (hr.2 g rfl) _).drew⟩

theorem splitF_nil (cur : List UInt8) : Lb.splitF cur [] = some [cur] := by rw [Lb.splitF.eq_def]
theorem splitF_dot (cur r : List UInt8) : Lb.splitF cur (46 :: r) = (Lb.splitF [] r).map (cur :: ·) := by rw [Lb.splitF.eq_def]; simp
theorem splitF_bad (cur : List UInt8) : Lb.splitF cur [92] = none := by rw [Lb.splitF.eq_def]; simp
theorem splitF_two (cur r : List UInt8) (d : UInt8) : Lb.splitF cur (92 :: d :: r) = Lb.splitF (cur ++ [92, d]) r := by rw [Lb.splitF.eq_def]; simp
theorem splitF_one (cur r : List UInt8) (c : UInt8) (h1 : c ≠ 92) (h2 : c ≠ 46) : Lb.splitF cur (c :: r) = Lb.splitF (cur ++ [c]) r := by rw [Lb.splitF.eq_def]; simp [h1, h2]

end Go.Proofs.YtneghhbclefmoaaGreat
end
section
/- Plain laws of labels: there and back. -/
namespace Go.Proofs.YtneghhbclefmoaaGreat.Lb

theorem esc_spec (c : UInt8) : isDig (48 + c / 100) ∧ isDig (48 + c / 10 % 10) ∧ isDig (48 + c % 10) ∧ num3 (48 + c / 100) (48 + c / 10 % 10) (48 + c % 10) = c.toNat := by
  have h : ∀ n : Fin 256, decide (isDig (48 + UInt8.ofFin n / 100) ∧ isDig (48 + UInt8.ofFin n / 10 % 10) ∧ isDig (48 + UInt8.ofFin n % 10) ∧ num3 (48 + UInt8.ofFin n / 100) (48 + UInt8.ofFin n / 10 % 10) (48 + UInt8.ofFin n % 10) = (UInt8.ofFin n).toNat) = true := by decide +kernel
  exact of_decide_eq_true (h c.toFin)
theorem marks_not_dig (c : UInt8) (h : c ∈ marks) : ¬ isDig c := by
  simp only [marks, List.mem_cons, List.not_mem_nil, or_false] at h
  rcases h with rfl | rfl | rfl | rfl | rfl | rfl | rfl | rfl <;> decide
theorem un_textC (c : UInt8) (r : List UInt8) : un [46] (textC c ++ r) = (un [46] r).map (c :: ·) := by
  unfold textC
  split
  · obtain ⟨h1, h2, h3, h4⟩ := esc_spec c
    have he := escd_three (r := r) h1 h2 h3
    rw [h4, if_neg (by have := c.toNat_lt; omega)] at he
    show un [46] (92 :: (48 + c / 100) :: (48 + c / 10 % 10) :: (48 + c % 10) :: r) = _
    rw [un_esc' he]
    simp
  · split
    · rename_i hm
      have he := escd_not (r := r) (marks_not_dig c hm)
      show un [46] (92 :: c :: r) = _
      rw [un_esc' he]; rfl
    · rename_i hm
      refine un_plain [46] r c (fun e => hm (by rw [e]; decide)) (fun e => hm ?_)
      rw [List.mem_singleton.1 e]; decide
theorem un_text (l : List UInt8) : un [46] (text l) = .ok l := by
  induction l with
  | nil => rfl
  | cons c l ih =>
    show un [46] (textC c ++ text l) = _
    rw [un_textC, ih]; rfl
theorem parse_text (l : List UInt8) : parse (text l) = if check l.length = 0 then (l, 0) else ([], check l.length) := by
  have h : unesc [46] (text l) = (l, 0) := by unfold unesc; rw [un_text]; rfl
  unfold parse
  rw [h, if_pos rfl]
end Go.Proofs.YtneghhbclefmoaaGreat.Lb
end
section
/- The law's own 'known'. -/
namespace Go.Proofs.YtneghhbclefmoaaGreat
open Go.RowKit Go.Shelf
set_option maxRecDepth 100000

theorem fold_fold (l : List UInt8) : Lb.fold (Lb.fold l) = Lb.fold l := by
  have h : ∀ c, Lb.low (Lb.low c) = Lb.low c := by
    have h : ∀ n : Fin 256, Lb.low (Lb.low (UInt8.ofFin n)) = Lb.low (UInt8.ofFin n) := by decide +kernel
    intro c; exact h c.toFin
  simp [Lb.fold, h]
theorem cmpL_fold (a b : List UInt8) : cmpL (Lb.fold a) b = cmpL a b := by unfold cmpL; rw [fold_fold]
theorem fold_length (l : List UInt8) : (Lb.fold l).length = l.length := by simp [Lb.fold]
theorem below5 {w w1 w2 : World} (h : Below w.heap.size w w1) (k : Below w1.heap.size w1 w2) : Below w.heap.size w w2 := h.trans (k.mono h.size)
theorem Lb.splitF_pos : ∀ (n : Nat) (cur s : List UInt8) (l : List (List UInt8)), s.length ≤ n → Lb.splitF cur s = some l → 0 < l.length
  | _, cur, [], l, _, h => by simp only [Lb.splitF, Option.some.injEq] at h; subst h; simp
  | 0, cur, c :: r, l, hn, h => by simp at hn
  | n + 1, cur, c :: r, l, hn, h => by
    simp only [List.length_cons] at hn
    unfold Lb.splitF at h
    split at h
    · obtain ⟨x, hx, rfl⟩ := Option.map_eq_some_iff.1 h
      simp
    · split at h
      · match r, hn, h with
        | [], _, h => cases h
        | d :: r, hn, h => exact Lb.splitF_pos n _ r l (by simp at hn; omega) h
      · exact Lb.splitF_pos n _ r l (by omega) h
theorem Lb.split_pos {s l} (h : Lb.split s = some l) : 0 < l.length := Lb.splitF_pos s.length [] s l (Nat.le_refl _) h

/-! ### words with dots between, parted again -/
theorem Lb.splitF_textC (cur r : List UInt8) (c : UInt8) : Lb.splitF cur (Lb.textC c ++ r) = Lb.splitF (cur ++ Lb.textC c) r := by
  unfold Lb.textC
  split
  · obtain ⟨_, h2, h3, _⟩ := esc_spec c
    have hd : ∀ x : UInt8, Lb.isDig x → x ≠ 46 ∧ x ≠ 92 := fun x h => ⟨fun e => by rw [e] at h; exact absurd h (by decide), fun e => by rw [e] at h; exact absurd h (by decide)⟩
    show Lb.splitF cur (92 :: (48 + c / 100) :: (48 + c / 10 % 10) :: (48 + c % 10) :: r) = _
    rw [Lb.splitF.eq_def]
    simp only [show (92 : UInt8) ≠ 46 by decide, if_false, if_true]
    rw [Lb.splitF.eq_def]
    simp only [(hd _ h2).1, (hd _ h2).2, if_false]
    rw [Lb.splitF.eq_def]
    simp only [(hd _ h3).1, (hd _ h3).2, if_false]
    simp [esc]
  · split
    · show Lb.splitF cur (92 :: c :: r) = _
      rw [Lb.splitF.eq_def]
      simp only [show (92 : UInt8) ≠ 46 by decide, if_false, if_true]
    · rename_i hm
      have h1 : c ≠ 46 := fun e => hm (by rw [e]; decide)
      have h2 : c ≠ 92 := fun e => hm (by rw [e]; decide)
      show Lb.splitF cur (c :: r) = _
      rw [Lb.splitF.eq_def]
      simp only [h1, h2, if_false]
theorem Lb.splitF_text (r : List UInt8) : ∀ (l cur : List UInt8), Lb.splitF cur (Lb.text l ++ r) = Lb.splitF (cur ++ Lb.text l) r
  | [], cur => by simp [Lb.text]
  | c :: l, cur => by
    show Lb.splitF cur (Lb.textC c ++ Lb.text l ++ r) = Lb.splitF (cur ++ (Lb.textC c ++ Lb.text l)) r
    rw [List.append_assoc, Lb.splitF_textC, Lb.splitF_text r l, List.append_assoc]
theorem Lb.splitF_dots : ∀ (r : List (List UInt8)) (cur : List UInt8), Lb.splitF cur (r.flatMap fun y => 46 :: Lb.text y) = some (cur :: r.map Lb.text)
  | [], cur => rfl
  | y :: r, cur => by
    show Lb.splitF cur (46 :: (Lb.text y ++ r.flatMap fun y => 46 :: Lb.text y)) = _
    rw [Lb.splitF.eq_def]
    simp only [if_true]
    rw [Lb.splitF_text, Lb.splitF_dots r]
    rfl
def Lb.jn : List (List UInt8) → List UInt8
  | [] => []
  | x :: r => Lb.text x ++ r.flatMap fun y => 46 :: Lb.text y
theorem Lb.split_jn (l : List (List UInt8)) (h : 0 < l.length) : Lb.split (Lb.jn l) = some (l.map Lb.text) := by
  match l, h with
  | x :: r, _ =>
    unfold Lb.split Lb.jn
    rw [Lb.splitF_text, Lb.splitF_dots]; rfl
theorem Lb.jn_succ (l : List (List UInt8)) (k : Nat) (h : k < l.length) : Lb.jn (l.take (k + 1)) = (if 0 < k then Lb.jn (l.take k) ++ [46] else Lb.jn (l.take k)) ++ Lb.text l[k] := by
  match l, k, h with
  | x :: r, 0, _ => simp [Lb.jn]
  | x :: r, k + 1, h =>
    simp only [List.length_cons] at h
    simp only [Nat.zero_lt_succ, if_true, List.take_succ_cons, Lb.jn, List.getElem_cons_succ]
    rw [List.take_succ_eq_append_getElem (by omega), List.flatMap_append]
    simp
theorem Lb.jn_len (l : List (List UInt8)) : ∀ (k : Nat) (h : k ≤ l.length) (_hl : ∀ j (hj : j < k), (l[j]'(by omega)).length ≤ 63), (Lb.jn (l.take k)).length ≤ 253 * k
  | 0, _, _ => by simp [Lb.jn]
  | k + 1, h, hl => by
    rw [Lb.jn_succ l k h, List.length_append]
    have h1 := Lb.jn_len l k (by omega) (fun j hj => hl j (by omega))
    have h2 := Lb.text_len l[k]
    have h3 := hl k (by omega)
    split <;> (try rw [List.length_append]) <;> simp <;> omega

theorem cell_lt {W : World} {p : Addr} {v : Value} (h : W.cell? p = some v) : p.block < W.heap.size := by
  rcases Nat.lt_or_ge p.block W.heap.size with h' | h'
  · exact h'
  · simp [World.cell?, Array.getElem?_eq_none h'] at h
end Go.Proofs.YtneghhbclefmoaaGreat
end
