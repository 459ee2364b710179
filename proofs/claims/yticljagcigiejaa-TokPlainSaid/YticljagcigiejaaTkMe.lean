/- The reference's lexer reads a line. -/
import Derived.Test.YticljagcigiejaaTkMa
import Derived.Test.YticljagcigiejaaTkMb
import Derived.Test.YticljagcigiejaaTkMc
import Derived.Test.YticljagcigiejaaTkMd
namespace Go.Proofs.Yticljagcigiejaa
open Go.RowKit Go.Shelf
set_option maxRecDepth 100000

theorem rline_any (Z : Nat → Prop) (b : Nat) (x : Tk.Lx) (st : Tk.St) (s : List UInt8) (n : Nat) (w : World) (h : Tk.LxRd Z b x w) (hsim : Tk.LSim x st) (hs : s.length ≤ 900000) (h8 : st.opens.length ≤ 8) (hwl : st.words.length + s.length ≤ 900000) (hol : st.out.length ≤ 900000) :
    Calls Try.prog 31 #[.pointer (some ⟨b, 0, none⟩), S s, .int .i64 n] w (LnP Z b st s n w) := by
  have hflow : (s = [] ∧ Tk.isBlank s = false) ∨ (∃ h : 0 < s.length, s[0] = 32 ∧ Tk.isBlank s = true) ∨ (∃ h : 0 < s.length, s[0] = 9 ∧ Tk.isBlank s = true) ∨ (∃ h : 0 < s.length, s[0] ≠ 32 ∧ s[0] ≠ 9 ∧ Tk.isBlank s = false) := by
    rcases s with _ | ⟨c, r⟩
    · exact .inl ⟨rfl, rfl⟩
    · by_cases h1 : c = 32
      · exact .inr (.inl ⟨by simp, h1, by rw [h1]; rfl⟩)
      · by_cases h2 : c = 9
        · exact .inr (.inr (.inl ⟨by simp, h2, by rw [h2]; rfl⟩))
        · exact .inr (.inr (.inr ⟨by simp, h1, h2, by simp [Tk.isBlank, h1, h2]⟩))
  rcases hflow with ⟨h0, hbl⟩ | ⟨hpos, h0, hbl⟩ | ⟨hpos, h0, hbl⟩ | ⟨hpos, h0, h0', hbl⟩
  · exact rline_0 Z b x st s n w h hsim hs h8 hwl hol h0 hbl
  · exact rline_1 Z b x st s n w h hsim hs h8 hwl hol hpos h0 hbl
  · exact rline_2 Z b x st s n w h hsim hs h8 hwl hol hpos h0 hbl
  · exact rline_3 Z b x st s n w h hsim hs h8 hwl hol hpos h0 h0' hbl
end Go.Proofs.Yticljagcigiejaa
