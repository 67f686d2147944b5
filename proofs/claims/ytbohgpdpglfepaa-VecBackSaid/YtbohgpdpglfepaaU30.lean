import Derived.Test.YtbohgpdpglfepaaT6
import Derived.IntWalk
set_option linter.unusedVariables false
set_option linter.unusedSimpArgs false
namespace Go.Proofs.Ytbohgpdpglfepaa
open Go.AM Go.RowKit

/-! Numbers as bytes: plain. -/
def bOK (xs : List Int) : Prop := ∀ x, x ∈ xs → 0 ≤ x ∧ x ≤ 255
/-- The low seven bits of each, the first one least. -/
def val : List Int → Int
  | [] => 0
  | x :: r => x % 128 + 128 * val r
/-- Where the first byte stands that is the last of a number, among so many. -/
def rdk : Nat → List Int → Option Nat
  | 0, _ => none
  | _ + 1, [] => none
  | n + 1, x :: r => if x < 128 then some 0 else (rdk n r).map (· + 1)
/-- A number off the front: itself, how many bytes it had, the error. -/
def rd (xs : List Int) : Int × Nat × Int :=
  match rdk 9 xs with
  | none => (0, 0, if 9 ≤ xs.length then 13 else 12)
  | some k => if (0 < k ∧ xs[k]? = some 0) ∨ 4611686018427387903 < val (xs.take (k + 1)) then (0, 0, 13) else (val (xs.take (k + 1)), k + 1, 0)

theorem rdk_of : ∀ {k n : Nat} {xs : List Int}, k < n → (∀ (j : Nat) x, j < k → xs[j]? = some x → 128 ≤ x) → (∃ x, xs[k]? = some x ∧ x < 128) → rdk n xs = some k
  | 0, n + 1, x :: r, _, _, ⟨y, h1, h2⟩ => by
    simp at h1; subst h1
    simp [rdk, h2]
  | 0, n + 1, [], _, _, ⟨y, h1, h2⟩ => by simp at h1
  | k + 1, n + 1, [], _, _, ⟨y, h1, h2⟩ => by simp at h1
  | k + 1, n + 1, x :: r, hk, h, ⟨y, h1, h2⟩ => by
    have hx := h 0 x (by omega) rfl
    have ih := rdk_of (k := k) (n := n) (xs := r) (by omega) (fun j z hj hz => h (j + 1) z (by omega) (by simpa using hz)) ⟨y, by simpa using h1, h2⟩
    rw [rdk, if_neg (by omega), ih]; rfl
  | _, 0, _, hk, _, _ => by omega
theorem rdk_none_of : ∀ {n : Nat} {xs : List Int}, (∀ (j : Nat) x, j < n → xs[j]? = some x → 128 ≤ x) → rdk n xs = none
  | 0, xs, _ => by simp [rdk]
  | n + 1, [], _ => rfl
  | n + 1, x :: r, h => by
    have hx := h 0 x (by omega) rfl
    rw [rdk, if_neg (by omega), rdk_none_of fun j z hj hz => h (j + 1) z (by omega) (by simpa using hz)]; rfl
theorem rdk_lt : ∀ {n : Nat} {xs : List Int} {k : Nat}, rdk n xs = some k → k < n ∧ k < xs.length
  | 0, xs, k, h => by simp [rdk] at h
  | n + 1, [], k, h => by simp [rdk] at h
  | n + 1, x :: r, k, h => by
    rw [rdk] at h
    split at h
    · injection h with h; subst h; simp
    · simp only [Option.map_eq_some_iff] at h
      obtain ⟨j, h1, rfl⟩ := h
      have := rdk_lt h1
      simp; omega

theorem val_nonneg : ∀ (xs : List Int), 0 ≤ val xs
  | [] => by simp [val]
  | x :: r => by
    have := val_nonneg r
    simp only [val]; omega
theorem val_lt : ∀ (xs : List Int), val xs < (128 ^ xs.length : Nat)
  | [] => by simp [val]
  | x :: r => by
    have := val_lt r
    have h0 := val_nonneg r
    simp only [val, List.length_cons, Nat.pow_succ]
    push_cast at this ⊢
    omega
theorem val_append : ∀ (xs : List Int) (x : Int), val (xs ++ [x]) = val xs + (128 ^ xs.length : Nat) * (x % 128)
  | [], x => by simp [val]
  | y :: r, x => by
    simp only [List.cons_append, val, val_append r x, List.length_cons, Nat.pow_succ]
    push_cast
    rw [Int.mul_add, Int.mul_comm ((128 : Int) ^ r.length) 128, Int.mul_assoc]
    omega

theorem pow_le {a : Nat} (h : a ≤ 9) : (128 : Nat) ^ a ≤ 9223372036854775808 := by
  have : (128 : Nat) ^ a ≤ 128 ^ 9 := Nat.pow_le_pow_right (by omega) h
  simpa using this

/-! #### numbers as bits -/
theorem and127 : ∀ x : Fin 256, (BitVec.ofInt 8 (x.val : Int) &&& BitVec.ofInt 8 127).toNat = x.val % 128 := by decide +kernel
theorem or128 : ∀ x : Fin 256, (BitVec.ofInt 8 (x.val : Int) ||| BitVec.ofInt 8 128).toNat = 128 + x.val % 128 := by decide +kernel

theorem w_and (x : Int) (h : 0 ≤ x ∧ x ≤ 255) : IntKind.u8.wrap ((BitVec.ofInt 8 x &&& BitVec.ofInt 8 127).toNat : Int) = x % 128 := by
  obtain ⟨n, rfl⟩ := Int.eq_ofNat_of_zero_le h.1
  have := and127 ⟨n, by omega⟩
  simp only at this
  rw [this, IntWalk.u8_in _ ⟨by omega, by omega⟩]; omega
theorem w_or (x : Int) (h : 0 ≤ x ∧ x ≤ 255) : IntKind.u8.wrap ((BitVec.ofInt 8 x ||| BitVec.ofInt 8 128).toNat : Int) = 128 + x % 128 := by
  obtain ⟨n, rfl⟩ := Int.eq_ofNat_of_zero_le h.1
  have := or128 ⟨n, by omega⟩
  simp only at this
  rw [this, IntWalk.u8_in _ ⟨by omega, by omega⟩]; omega

/-- Two numbers, the one's bits below the other's. -/
theorem w_or64 (a d : Nat) (k : Nat) (ha : a < 2 ^ k) (hs : a + d * 2 ^ k < 2 ^ 63) : IntKind.i64.wrap ((BitVec.ofInt 64 (a : Int) ||| BitVec.ofInt 64 ((d * 2 ^ k : Nat) : Int)).toNat : Int) = ((a + d * 2 ^ k : Nat) : Int) := by
  have h1 : a < 2 ^ 64 := by omega
  have h2 : d * 2 ^ k < 2 ^ 64 := by omega
  have e1 : (BitVec.ofInt 64 (a : Int)).toNat = a := by
    rw [BitVec.ofInt_natCast, BitVec.toNat_ofNat, Nat.mod_eq_of_lt h1]
  have e2 : (BitVec.ofInt 64 ((d * 2 ^ k : Nat) : Int)).toNat = d * 2 ^ k := by
    rw [BitVec.ofInt_natCast, BitVec.toNat_ofNat, Nat.mod_eq_of_lt h2]
  have e3 : a ||| d * 2 ^ k = a + d * 2 ^ k := by
    have := Nat.two_pow_add_eq_or_of_lt ha d
    rw [Nat.mul_comm, Nat.or_comm, ← this, Nat.add_comm]
  rw [BitVec.toNat_or, e1, e2, e3, IntWalk.i64_in _ ⟨by omega, by omega⟩]

/-! #### writing -/
def encN (n : Nat) : List Int := if h : 128 ≤ n then ((128 + n % 128 : Nat) : Int) :: encN (n / 128) else [(n : Int)]
termination_by n
decreasing_by omega

theorem encN_ge {n : Nat} (h : 128 ≤ n) : encN n = ((128 + n % 128 : Nat) : Int) :: encN (n / 128) := by rw [encN, dif_pos h]
theorem encN_lt {n : Nat} (h : n < 128) : encN n = [(n : Int)] := by rw [encN, dif_neg (by omega)]
theorem encN_pos (n : Nat) : 1 ≤ (encN n).length := by
  by_cases h : 128 ≤ n
  · rw [encN_ge h]; simp
  · rw [encN_lt (by omega)]; simp
theorem encN_bytes : ∀ (n : Nat), bOK (encN n) := by
  intro n
  induction n using Nat.strongRecOn with
  | _ n ih =>
    by_cases h : 128 ≤ n
    · rw [encN_ge h]
      intro x hx
      rcases List.mem_cons.1 hx with rfl | hx
      · omega
      · exact ih _ (by omega) x hx
    · rw [encN_lt (by omega)]
      intro x hx
      simp at hx; omega
theorem val_enc : ∀ (n : Nat), val (encN n) = n := by
  intro n
  induction n using Nat.strongRecOn with
  | _ n ih =>
    by_cases h : 128 ≤ n
    · rw [encN_ge h, val, ih _ (by omega)]; omega
    · rw [encN_lt (by omega)]; simp only [val]; omega
theorem enc_last : ∀ (n : Nat), (encN n)[(encN n).length - 1]? = some 0 → (encN n).length = 1 := by
  intro n
  induction n using Nat.strongRecOn with
  | _ n ih =>
    intro h0
    by_cases h : 128 ≤ n
    · exfalso
      rw [encN_ge h] at h0
      have hp := encN_pos (n / 128)
      have e : ((((128 + n % 128 : Nat) : Int) :: encN (n / 128)).length - 1) = ((encN (n / 128)).length - 1) + 1 := by simp; omega
      rw [e, List.getElem?_cons_succ] at h0
      have h1 := ih _ (by omega) h0
      by_cases h2 : 128 ≤ n / 128
      · have := encN_pos (n / 128 / 128)
        rw [encN_ge h2, List.length_cons] at h1; omega
      · rw [encN_lt (by omega)] at h0
        simp at h0; omega
    · rw [encN_lt (by omega)]; simp
theorem rdk_enc : ∀ (m n : Nat) (rest : List Int), n < 128 ^ (m + 1) → rdk (m + 1) (encN n ++ rest) = some ((encN n).length - 1) ∧ (encN n).length ≤ m + 1
  | 0, n, rest, h => by
    rw [encN_lt (by simpa using h)]
    simp only [List.cons_append, List.nil_append, rdk]
    rw [if_pos (by omega)]; simp
  | m + 1, n, rest, h => by
    by_cases h1 : 128 ≤ n
    · have ih := rdk_enc m (n / 128) rest (by rw [Nat.pow_succ] at h; omega)
      have hp := encN_pos (n / 128)
      rw [encN_ge h1, List.cons_append, rdk, if_neg (by omega), ih.1]
      simp only [Option.map_some, List.length_cons]
      refine ⟨by congr 1; omega, by omega⟩
    · rw [encN_lt (by omega)]
      simp only [List.cons_append, List.nil_append, rdk]
      rw [if_pos (by omega)]; simp
theorem rd_enc (n : Nat) (rest : List Int) (h : n ≤ 4611686018427387903) : rd (encN n ++ rest) = ((n : Int), (encN n).length, 0) := by
  obtain ⟨h1, h2⟩ := rdk_enc 8 n rest (by simp; omega)
  have hp := encN_pos n
  unfold rd
  rw [h1]
  simp only
  have e : (encN n).length - 1 + 1 = (encN n).length := by omega
  have hv : List.take (encN n).length (encN n ++ rest) = encN n := List.take_left' rfl
  rw [e, hv, val_enc, if_neg]
  rintro (⟨h3, h4⟩ | h3)
  · rw [List.getElem?_append_left (by omega)] at h4
    have := enc_last n h4
    omega
  · omega
end Go.Proofs.Ytbohgpdpglfepaa
