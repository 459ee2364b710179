/- A text parted at its dots, plainly. -/
import Derived.Test.YtikibmeopndncaaLabSpec
namespace Go.Proofs.Ytikibmeopndncaa.Lb
/-! ### parted at its dots -/
/-- 'cur': the part that is being read -/
def splitF (cur : List UInt8) : List UInt8 → Option (List (List UInt8))
  | [] => some [cur]
  | c :: r => if c = 46 then (splitF [] r).map (cur :: ·)
    else if c = 92 then (match r with
      | [] => none
      | d :: r => splitF (cur ++ [92, d]) r)
    else splitF (cur ++ [c]) r
def split (l : List UInt8) : Option (List (List UInt8)) := splitF [] l

/-- where the parting stands at k: the parts that are done, where the part begins that is being read, whether a stroke stood last -/
def SpI (s : List UInt8) (parts : List (List UInt8)) (fr : Nat) (taken : Bool) (k : Nat) : Prop :=
  fr ≤ k ∧ k ≤ s.length ∧ (taken = false → split s = (splitF ((s.drop fr).take (k - fr)) (s.drop k)).map (parts ++ ·)) ∧
    (taken = true → fr + 1 ≤ k ∧ s[k - 1]? = some 92 ∧ split s = (splitF ((s.drop fr).take (k - 1 - fr)) (92 :: s.drop k)).map (parts ++ ·))
theorem SpI.start (s : List UInt8) : SpI s [] 0 false 0 :=
  ⟨by omega, by omega, fun _ => by simp [split], fun h => by cases h⟩
theorem take_snoc (s : List UInt8) (fr k : Nat) (h : k < s.length) (hf : fr ≤ k) : (s.drop fr).take (k + 1 - fr) = (s.drop fr).take (k - fr) ++ [s[k]] := by
  rw [show k + 1 - fr = (k - fr) + 1 by omega, List.take_succ_eq_append_getElem (by simp; omega)]
  congr 2
  simp [List.getElem_drop]
  congr 1; omega
theorem SpI.plain {s parts fr k} (h : SpI s parts fr false k) (hk : k < s.length) (h1 : s[k] ≠ 92) (h2 : s[k] ≠ 46) : SpI s parts fr false (k + 1) := by
  obtain ⟨a, b, c, _⟩ := h
  refine ⟨by omega, by omega, fun _ => ?_, fun h => by cases h⟩
  rw [c rfl, List.drop_eq_getElem_cons hk, splitF.eq_def]
  simp only [h1, h2, if_false]
  rw [take_snoc s fr k hk a]
theorem SpI.stroke {s parts fr k} (h : SpI s parts fr false k) (hk : k < s.length) (h1 : s[k] = 92) : SpI s parts fr true (k + 1) := by
  obtain ⟨a, b, c, _⟩ := h
  refine ⟨by omega, by omega, fun h => (by cases h), fun _ => ⟨by omega, by simp [hk, h1], ?_⟩⟩
  rw [c rfl, List.drop_eq_getElem_cons hk, h1]; rfl
theorem SpI.taken {s parts fr k} (h : SpI s parts fr true k) (hk : k < s.length) : SpI s parts fr false (k + 1) := by
  obtain ⟨a, b, _, d⟩ := h
  obtain ⟨d1, d0, d2⟩ := d rfl
  refine ⟨by omega, by omega, fun _ => ?_, fun h => by cases h⟩
  rw [d2, List.drop_eq_getElem_cons hk, splitF.eq_def]
  simp only [show (92 : UInt8) ≠ 46 by decide, if_false, if_true]
  have h92 : s[k - 1]'(by omega) = 92 := by
    have := List.getElem?_eq_getElem (l := s) (i := k - 1) (by omega); rw [this] at d0; exact Option.some.inj d0
  have e1 := take_snoc s fr k hk (by omega)
  have e2 := take_snoc s fr (k - 1) (by omega) (by omega)
  rw [show k - 1 + 1 - fr = k - fr by omega, h92] at e2
  rw [e1, e2, List.append_assoc]; rfl
theorem SpI.dot {s parts fr k} (h : SpI s parts fr false k) (hk : k < s.length) (h1 : s[k] = 46) : SpI s (parts ++ [(s.drop fr).take (k - fr)]) (k + 1) false (k + 1) := by
  obtain ⟨a, b, c, _⟩ := h
  refine ⟨by omega, by omega, fun _ => ?_, fun h => by cases h⟩
  rw [c rfl, List.drop_eq_getElem_cons hk, splitF.eq_def]
  simp only [h1, if_true]
  rw [Option.map_map, Nat.sub_self, List.take_zero]
  congr 1
  funext x
  simp
theorem SpI.fail {s parts fr} (h : SpI s parts fr true s.length) : split s = none := by
  obtain ⟨_, _, _, d⟩ := h
  rw [(d rfl).2.2, List.drop_length]; rfl
theorem SpI.done {s parts fr} (h : SpI s parts fr false s.length) : split s = some (parts ++ [s.drop fr]) := by
  obtain ⟨a, _, c, _⟩ := h
  rw [c rfl, List.drop_length, List.take_of_length_le (by simp)]; rfl
end Go.Proofs.Ytikibmeopndncaa.Lb
