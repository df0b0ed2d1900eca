/-
  The reference's Rune is the decoding of a range over a string. Plain Lean.
-/
import Derived.Test.YtbdgelipabndaaaWordA
set_option linter.unusedSimpArgs false
set_option linter.unusedVariables false
namespace Go.Proofs.Ytbdgelipabndaaa
open Go.RowKit

theorem strAt_get (s : ByteArray) (pos k : Nat) : StrAt s ((pos : Int) + (k : Int)) = ((s.get! (pos + k)).toNat : Int) := by
  unfold StrAt
  rw [show ((pos : Int) + (k : Int)).toNat = pos + k by omega]
  rfl

/-- What a range over a string decodes, of the four bytes from a place on; s1 .. s3: whether the text goes so far. -/
def decF (b0 b1 b2 b3 : Nat) (s1 s2 s3 : Prop) [Decidable s1] [Decidable s2] [Decidable s3] : Nat × Nat :=
  if b0 < 128 then (b0, 1)
  else if b0 / 32 = 6 ∧ s1 ∧ b1 / 64 = 2 then
    (if 128 ≤ b0 % 32 * 64 + b1 % 64 then (b0 % 32 * 64 + b1 % 64, 2) else (65533, 1))
  else if (b0 / 16 = 14 ∧ s1 ∧ b1 / 64 = 2) ∧ s2 ∧ b2 / 64 = 2 then
    (if 2048 ≤ b0 % 16 * 4096 + b1 % 64 * 64 + b2 % 64 ∧ Utf8.valid ((b0 % 16 * 4096 + b1 % 64 * 64 + b2 % 64 : Nat) : Int) = true then (b0 % 16 * 4096 + b1 % 64 * 64 + b2 % 64, 3) else (65533, 1))
  else if ((b0 / 8 = 30 ∧ s1 ∧ b1 / 64 = 2) ∧ s2 ∧ b2 / 64 = 2) ∧ s3 ∧ b3 / 64 = 2 then
    (if 65536 ≤ b0 % 8 * 262144 + b1 % 64 * 4096 + b2 % 64 * 64 + b3 % 64 ∧ Utf8.valid ((b0 % 8 * 262144 + b1 % 64 * 4096 + b2 % 64 * 64 + b3 % 64 : Nat) : Int) = true then (b0 % 8 * 262144 + b1 % 64 * 4096 + b2 % 64 * 64 + b3 % 64, 4) else (65533, 1))
  else (65533, 1)

theorem ite_congr_bool {α : Type} {b : Bool} {p : Prop} [Decidable p] {x y x' y' : α} (h : b = true ↔ p) (hx : x = x') (hy : y = y') : (if b = true then x else y) = (if p then x' else y') := by
  subst hx; subst hy
  by_cases hp : p
  · rw [if_pos hp, if_pos (h.2 hp)]
  · rw [if_neg hp, if_neg (fun e => hp (h.1 e))]

theorem decode_eq (s : ByteArray) (pos : Nat) : Utf8.decode s pos = decF (s.get! (pos + 0)).toNat (s.get! (pos + 1)).toNat (s.get! (pos + 2)).toNat (s.get! (pos + 3)).toNat (pos + 1 < s.size) (pos + 2 < s.size) (pos + 3 < s.size) := by
  unfold Utf8.decode decF
  refine ite_congr rfl (fun _ => rfl) fun _ => ?_
  refine ite_congr_bool (by simp only [Bool.and_eq_true, beq_iff_eq, decide_eq_true_eq]) rfl ?_
  refine ite_congr_bool (by simp only [Bool.and_eq_true, beq_iff_eq, decide_eq_true_eq]) (ite_congr_bool (by simp only [Bool.and_eq_true, decide_eq_true_eq, ge_iff_le]) rfl rfl) ?_
  exact ite_congr_bool (by simp only [Bool.and_eq_true, beq_iff_eq, decide_eq_true_eq]) (ite_congr_bool (by simp only [Bool.and_eq_true, decide_eq_true_eq, ge_iff_le]) rfl rfl) rfl

theorem valid_iff (n : Nat) : Utf8.valid (n : Int) = true ↔ n < 55296 ∨ (57344 ≤ n ∧ n ≤ 1114111) := by
  unfold Utf8.valid
  simp only [Bool.or_eq_true, Bool.and_eq_true, decide_eq_true_eq]
  omega

/-- The reference's Rune, of the same bytes. -/
def refF (b0 b1 b2 b3 : Int) (left : Int) : Int × Int :=
  if b0 < 128 then (b0, 1) else
  match rLead b0 with
  | none => (-1, 1)
  | some (n, c, least) => if left ≤ n then (-1, 1) else
    rFin n least (if b1 < 128 ∨ 191 < b1 then none else if n = 1 then some (c * 64 + b1 - 128) else if b2 < 128 ∨ 191 < b2 then none else if n = 2 then some ((c * 64 + b1 - 128) * 64 + b2 - 128) else if b3 < 128 ∨ 191 < b3 then none else some (((c * 64 + b1 - 128) * 64 + b2 - 128) * 64 + b3 - 128))

set_option maxRecDepth 100000 in
theorem rRune_eq (s : ByteArray) (a : Int) : rRune s a = refF (StrAt s a) (StrAt s (a + 1)) (StrAt s (a + 2)) (StrAt s (a + 3)) ((s.size : Int) - a) := by
  unfold rRune refF
  split
  · rfl
  · split
    · rename_i h; rw [h]
    · rename_i n c l h
      rw [h]
      simp only
      split
      · rfl
      · congr 1
        have hb := strAt_byte s a
        obtain ⟨h1, h2, _⟩ := rLead_some h hb.2
        have : n = 1 ∨ n = 2 ∨ n = 3 := by omega
        rcases this with rfl | rfl | rfl
        · rw [show (1 : Int).toNat = 0 + 1 from rfl]
          simp only [rLoop, if_true]
        · rw [show (2 : Int).toNat = 0 + 1 + 1 from rfl]
          simp only [rLoop, if_true, show ((2 : Int) = 1) = False from by simp, if_false, show a + (1 + 1) = a + 2 from by omega]
        · rw [show (3 : Int).toNat = 0 + 1 + 1 + 1 from rfl]
          simp only [rLoop, if_true, show ((3 : Int) = 1) = False from by simp, show ((3 : Int) = 2) = False from by simp, if_false, show a + (1 + 1) = a + 2 from by omega, show a + (1 + 1 + 1) = a + 3 from by omega]

def Agree (r : Int × Int) (d : Nat × Nat) : Prop := r.2 = (d.2 : Int) ∧ (r.1 = (d.1 : Int) ∨ (r.1 = -1 ∧ d.1 = 65533))

theorem agree_bad : Agree (-1, 1) (65533, 1) := ⟨rfl, .inr ⟨rfl, rfl⟩⟩

theorem agreeF (b0 b1 b2 b3 : Nat) (left : Int) (s1 s2 s3 : Prop) [Decidable s1] [Decidable s2] [Decidable s3] (l0 : b0 < 256) (l1 : b1 < 256) (l2 : b2 < 256) (l3 : b3 < 256) (h1 : s1 ↔ 1 < left) (h2 : s2 ↔ 2 < left) (h3 : s3 ↔ 3 < left) :
    Agree (refF b0 b1 b2 b3 left) (decF b0 b1 b2 b3 s1 s2 s3) := by
  have key : ∀ (r : Int × Int) (d : Nat × Nat), refF b0 b1 b2 b3 left = r → decF b0 b1 b2 b3 s1 s2 s3 = d → Agree r d → Agree (refF b0 b1 b2 b3 left) (decF b0 b1 b2 b3 s1 s2 s3) := by
    rintro r d rfl rfl h; exact h
  have dn : ∀ {d : Nat × Nat}, d = (65533, 1) → refF b0 b1 b2 b3 left = (-1, 1) → decF b0 b1 b2 b3 s1 s2 s3 = d → Agree (refF b0 b1 b2 b3 left) (decF b0 b1 b2 b3 s1 s2 s3) := by
    rintro d rfl h1 h2; exact key _ _ h1 h2 agree_bad
  by_cases c0 : b0 < 128
  · exact key (b0, 1) (b0, 1) (by unfold refF; rw [if_pos (by omega)]) (by unfold decF; rw [if_pos c0]) ⟨rfl, .inl rfl⟩
  unfold refF decF rLead
  rw [if_neg (show ¬ ((b0 : Int) < 128) by omega), if_neg c0]
  clear dn key
  by_cases d1 : 194 ≤ b0 ∧ b0 < 224
  · rw [if_pos (show (194 : Int) ≤ b0 ∧ (b0 : Int) < 224 by omega)]
    simp only
    by_cases hs : s1 ∧ b1 / 64 = 2
    · have hl := h1.1 hs.1
      rw [if_pos (show b0 / 32 = 6 ∧ s1 ∧ b1 / 64 = 2 from ⟨by omega, hs⟩), if_pos (show 128 ≤ b0 % 32 * 64 + b1 % 64 by omega), if_neg (show ¬ left ≤ 1 by omega), if_neg (show ¬ ((b1 : Int) < 128 ∨ 191 < (b1 : Int)) by omega), if_pos trivial]
      unfold rFin
      simp only
      rw [if_neg (by omega)]
      exact ⟨rfl, .inl (by simp only; omega)⟩
    · rw [if_neg (show ¬ (b0 / 32 = 6 ∧ s1 ∧ b1 / 64 = 2) from fun q => hs q.2), if_neg (show ¬ ((b0 / 16 = 14 ∧ s1 ∧ b1 / 64 = 2) ∧ s2 ∧ b2 / 64 = 2) from fun q => hs q.1.2), if_neg (show ¬ (((b0 / 8 = 30 ∧ s1 ∧ b1 / 64 = 2) ∧ s2 ∧ b2 / 64 = 2) ∧ s3 ∧ b3 / 64 = 2) from fun q => hs q.1.1.2)]
      by_cases hl : left ≤ 1
      · rw [if_pos hl]; exact agree_bad
      · have hs1 := h1.2 (by omega)
        rw [if_neg hl, if_pos (show (b1 : Int) < 128 ∨ 191 < (b1 : Int) by have : ¬ b1 / 64 = 2 := fun q => hs ⟨hs1, q⟩; omega)]
        exact agree_bad
  rw [if_neg (show ¬ ((194 : Int) ≤ b0 ∧ (b0 : Int) < 224) by omega)]
  by_cases d1' : b0 / 32 = 6 ∧ s1 ∧ b1 / 64 = 2
  · rw [if_pos d1', if_neg (by omega), if_neg (by omega), if_neg (by omega)]; exact agree_bad
  rw [if_neg d1']
  by_cases d2 : 224 ≤ b0 ∧ b0 < 240
  · rw [if_pos (show (224 : Int) ≤ b0 ∧ (b0 : Int) < 240 by omega)]
    simp only
    by_cases hs : (s1 ∧ b1 / 64 = 2) ∧ s2 ∧ b2 / 64 = 2
    · have hl := h2.1 hs.2.1
      rw [if_pos (show (b0 / 16 = 14 ∧ s1 ∧ b1 / 64 = 2) ∧ s2 ∧ b2 / 64 = 2 from ⟨⟨by omega, hs.1⟩, hs.2⟩), if_neg (show ¬ left ≤ 2 by omega), if_neg (show ¬ ((b1 : Int) < 128 ∨ 191 < (b1 : Int)) by omega), if_neg (show ¬ ((2 : Int) = 1) by decide), if_neg (show ¬ ((b2 : Int) < 128 ∨ 191 < (b2 : Int)) by omega), if_pos trivial]
      unfold rFin
      simp only [valid_iff]
      by_cases hv : 2048 ≤ b0 % 16 * 4096 + b1 % 64 * 64 + b2 % 64 ∧ ¬ (55296 ≤ b0 % 16 * 4096 + b1 % 64 * 64 + b2 % 64 ∧ b0 % 16 * 4096 + b1 % 64 * 64 + b2 % 64 ≤ 57343)
      · rw [if_neg (by omega), if_pos (by omega)]
        exact ⟨rfl, .inl (by simp only; omega)⟩
      · rw [if_pos (by omega), if_neg (by omega)]; exact agree_bad
    · rw [if_neg (show ¬ ((b0 / 16 = 14 ∧ s1 ∧ b1 / 64 = 2) ∧ s2 ∧ b2 / 64 = 2) from fun q => hs ⟨q.1.2, q.2⟩), if_neg (show ¬ (((b0 / 8 = 30 ∧ s1 ∧ b1 / 64 = 2) ∧ s2 ∧ b2 / 64 = 2) ∧ s3 ∧ b3 / 64 = 2) from fun q => hs ⟨q.1.1.2, q.1.2⟩)]
      by_cases hl : left ≤ 2
      · rw [if_pos hl]; exact agree_bad
      · have hs1 := h1.2 (by omega)
        have hs2 := h2.2 (by omega)
        rw [if_neg hl]
        by_cases q : b1 / 64 = 2
        · have q2 : ¬ b2 / 64 = 2 := fun z => hs ⟨⟨hs1, q⟩, hs2, z⟩
          rw [if_neg (by omega), if_neg (by decide), if_pos (by omega)]; exact agree_bad
        · rw [if_pos (by omega)]; exact agree_bad
  rw [if_neg (show ¬ ((224 : Int) ≤ b0 ∧ (b0 : Int) < 240) by omega), if_neg (show ¬ ((b0 / 16 = 14 ∧ s1 ∧ b1 / 64 = 2) ∧ s2 ∧ b2 / 64 = 2) by omega)]
  by_cases d3 : 240 ≤ b0 ∧ b0 < 245
  · rw [if_pos (show (240 : Int) ≤ b0 ∧ (b0 : Int) < 245 by omega)]
    simp only
    by_cases hs : ((s1 ∧ b1 / 64 = 2) ∧ s2 ∧ b2 / 64 = 2) ∧ s3 ∧ b3 / 64 = 2
    · have hl := h3.1 hs.2.1
      rw [if_pos (show ((b0 / 8 = 30 ∧ s1 ∧ b1 / 64 = 2) ∧ s2 ∧ b2 / 64 = 2) ∧ s3 ∧ b3 / 64 = 2 from ⟨⟨⟨by omega, hs.1.1⟩, hs.1.2⟩, hs.2⟩), if_neg (show ¬ left ≤ 3 by omega), if_neg (show ¬ ((b1 : Int) < 128 ∨ 191 < (b1 : Int)) by omega), if_neg (show ¬ ((3 : Int) = 1) by decide), if_neg (show ¬ ((b2 : Int) < 128 ∨ 191 < (b2 : Int)) by omega), if_neg (show ¬ ((3 : Int) = 2) by decide), if_neg (show ¬ ((b3 : Int) < 128 ∨ 191 < (b3 : Int)) by omega)]
      unfold rFin
      simp only [valid_iff]
      by_cases hv : 65536 ≤ b0 % 8 * 262144 + b1 % 64 * 4096 + b2 % 64 * 64 + b3 % 64 ∧ b0 % 8 * 262144 + b1 % 64 * 4096 + b2 % 64 * 64 + b3 % 64 ≤ 1114111
      · rw [if_neg (by omega), if_pos (by omega)]
        exact ⟨rfl, .inl (by simp only; omega)⟩
      · rw [if_pos (by omega), if_neg (by omega)]; exact agree_bad
    · rw [if_neg (show ¬ (((b0 / 8 = 30 ∧ s1 ∧ b1 / 64 = 2) ∧ s2 ∧ b2 / 64 = 2) ∧ s3 ∧ b3 / 64 = 2) from fun q => hs ⟨⟨q.1.1.2, q.1.2⟩, q.2⟩)]
      by_cases hl : left ≤ 3
      · rw [if_pos hl]; exact agree_bad
      · have hs1 := h1.2 (by omega)
        have hs2 := h2.2 (by omega)
        have hs3 := h3.2 (by omega)
        rw [if_neg hl]
        by_cases q : b1 / 64 = 2
        · rw [if_neg (by omega), if_neg (by decide)]
          by_cases q2 : b2 / 64 = 2
          · have q3 : ¬ b3 / 64 = 2 := fun z => hs ⟨⟨⟨hs1, q⟩, hs2, q2⟩, hs3, z⟩
            rw [if_neg (by omega), if_neg (by decide), if_pos (by omega)]; exact agree_bad
          · rw [if_pos (by omega)]; exact agree_bad
        · rw [if_pos (by omega)]; exact agree_bad
  · rw [if_neg (show ¬ ((240 : Int) ≤ b0 ∧ (b0 : Int) < 245) by omega)]
    simp only [valid_iff]
    by_cases hs : ((b0 / 8 = 30 ∧ s1 ∧ b1 / 64 = 2) ∧ s2 ∧ b2 / 64 = 2) ∧ s3 ∧ b3 / 64 = 2
    · rw [if_pos hs, if_neg (by omega)]; exact agree_bad
    · rw [if_neg hs]; exact agree_bad

theorem rRune_decode (s : ByteArray) (pos : Nat) : Agree (rRune s pos) (Utf8.decode s pos) := by
  rw [rRune_eq, decode_eq]
  have e0 := strAt_get s pos 0
  have e1 := strAt_get s pos 1
  have e2 := strAt_get s pos 2
  have e3 := strAt_get s pos 3
  rw [show (pos : Int) = (pos : Int) + ((0 : Nat) : Int) by simp, e0]
  simp only [Int.natCast_zero, Int.add_zero]
  rw [show (pos : Int) + 1 = (pos : Int) + ((1 : Nat) : Int) from rfl, e1, show (pos : Int) + 2 = (pos : Int) + ((2 : Nat) : Int) from rfl, e2, show (pos : Int) + 3 = (pos : Int) + ((3 : Nat) : Int) from rfl, e3]
  exact agreeF _ _ _ _ _ _ _ _ (UInt8.toNat_lt _) (UInt8.toNat_lt _) (UInt8.toNat_lt _) (UInt8.toNat_lt _) (by omega) (by omega) (by omega)
end Go.Proofs.Ytbdgelipabndaaa
