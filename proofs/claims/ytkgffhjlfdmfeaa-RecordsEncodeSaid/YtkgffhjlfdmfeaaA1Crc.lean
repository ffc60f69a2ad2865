/- Checksums and numbers in bytes: plain laws. -/
set_option linter.unusedSimpArgs false
set_option linter.unusedVariables false
namespace Rec

/-- one bit -/
def rnd (s : Nat) : Nat := if 32768 ≤ s then (2 * s % 65536) ^^^ 4129 else 2 * s
def rnds : Nat → Nat → Nat
  | 0, s => s
  | k + 1, s => rnds k (rnd s)
def crcStep (s : Nat) (b : UInt8) : Nat := rnds 8 (s ^^^ b.toNat * 256)
def crcFrom (s : Nat) (l : List UInt8) : Nat := l.foldl crcStep s
def crc (l : List UInt8) : Nat := crcFrom 65535 l

theorem rnd_lt {s : Nat} (h : s < 65536) : rnd s < 65536 := by
  unfold rnd
  split
  · exact Nat.xor_lt_two_pow (n := 16) (by omega) (by omega)
  · omega
theorem rnds_lt : ∀ {k s : Nat}, s < 65536 → rnds k s < 65536
  | 0, _, h => h
  | k + 1, _, h => rnds_lt (k := k) (rnd_lt h)
theorem step_lt {s : Nat} {b : UInt8} (h : s < 65536) : crcStep s b < 65536 := by
  apply rnds_lt
  have := b.toNat_lt
  exact Nat.xor_lt_two_pow (n := 16) (by omega) (by omega)
theorem crcFrom_lt : ∀ {l : List UInt8} {s : Nat}, s < 65536 → crcFrom s l < 65536
  | [], _, h => h
  | _ :: l, _, h => crcFrom_lt (l := l) (step_lt h)
theorem crc_lt {l : List UInt8} : crc l < 65536 := crcFrom_lt (by omega)
theorem crcFrom_append {s : Nat} {a b : List UInt8} : crcFrom s (a ++ b) = crcFrom (crcFrom s a) b := by simp [crcFrom]

theorem xor_odd (a b : Nat) : (a ^^^ b) % 2 = (a % 2 + b % 2) % 2 := by
  have h := Nat.xor_mod_two_eq_one (a := a) (b := b)
  omega
theorem xor_cancel {a b c : Nat} (h : a ^^^ c = b ^^^ c) : a = b := by
  have := congrArg (· ^^^ c) h
  simpa [Nat.xor_assoc] using this
theorem xor_cancel_left {a b c : Nat} (h : c ^^^ a = c ^^^ b) : a = b := xor_cancel (by rw [Nat.xor_comm a c, Nat.xor_comm b c]; exact h)

theorem rnd_inj {s t : Nat} (hs : s < 65536) (ht : t < 65536) (h : rnd s = rnd t) : s = t := by
  unfold rnd at h
  split at h <;> split at h
  · have := xor_cancel h; omega
  · have h1 := xor_odd (2 * s % 65536) 4129
    rw [h] at h1; omega
  · have h1 := xor_odd (2 * t % 65536) 4129
    rw [← h] at h1; omega
  · omega
theorem rnds_inj : ∀ {k s t : Nat}, s < 65536 → t < 65536 → rnds k s = rnds k t → s = t
  | 0, _, _, _, _, h => h
  | k + 1, _, _, hs, ht, h => rnd_inj hs ht (rnds_inj (k := k) (rnd_lt hs) (rnd_lt ht) h)
theorem mix_lt {s : Nat} {b : UInt8} (h : s < 65536) : s ^^^ b.toNat * 256 < 65536 := by
  have := b.toNat_lt
  exact Nat.xor_lt_two_pow (n := 16) (by omega) (by omega)
theorem mixed {k s t : Nat} {b : UInt8} (hs : s < 65536) (ht : t < 65536) (h : rnds k (s ^^^ b.toNat * 256) = rnds k (t ^^^ b.toNat * 256)) : s = t := xor_cancel (rnds_inj (mix_lt hs) (mix_lt ht) h)
theorem mixedB {k s : Nat} {b c : UInt8} (hs : s < 65536) (h : rnds k (s ^^^ b.toNat * 256) = rnds k (s ^^^ c.toNat * 256)) : b = c := by
  have := xor_cancel_left (rnds_inj (mix_lt hs) (mix_lt hs) h)
  exact UInt8.toNat_inj.1 (by omega)
attribute [local irreducible] rnds
theorem step_inj {s t : Nat} {b : UInt8} (hs : s < 65536) (ht : t < 65536) (h : crcStep s b = crcStep t b) : s = t := mixed hs ht h
theorem step_injB {s : Nat} {b c : UInt8} (hs : s < 65536) (h : crcStep s b = crcStep s c) : b = c := mixedB hs h
theorem crcFrom_inj : ∀ {l : List UInt8} {s t : Nat}, s < 65536 → t < 65536 → crcFrom s l = crcFrom t l → s = t
  | [], _, _, _, _, h => h
  | b :: l, _, _, hs, ht, h => step_inj hs ht (crcFrom_inj (l := l) (step_lt hs) (step_lt ht) h)
/-- one changed byte changes the checksum -/
theorem crc_changed {a c : List UInt8} {x y : UInt8} (h : crc (a ++ x :: c) = crc (a ++ y :: c)) : x = y := by
  unfold crc at h
  rw [crcFrom_append, crcFrom_append] at h
  have h1 : crcFrom 65535 a < 65536 := crcFrom_lt (by omega)
  exact step_injB h1 (crcFrom_inj (step_lt h1) (step_lt h1) h)

/-- numbers in bytes, the most significant one first -/
def dec (l : List UInt8) : Nat := l.foldl (fun n c => n * 256 + c.toNat) 0
def enc (n : Nat) : Nat → List UInt8
  | 0 => []
  | k + 1 => UInt8.ofNat (n / 256 ^ k) :: enc n k

theorem enc_length {n : Nat} : ∀ {k : Nat}, (enc n k).length = k
  | 0 => rfl
  | k + 1 => by simp [enc, enc_length]

theorem decFrom : ∀ (l : List UInt8) (m : Nat), l.foldl (fun n c => n * 256 + c.toNat) m = m * 256 ^ l.length + dec l
  | [], m => by simp [dec]
  | c :: l, m => by
    simp only [List.foldl_cons, dec]
    rw [decFrom l, decFrom l]
    simp only [List.length_cons, Nat.pow_succ, Nat.add_mul, Nat.zero_mul, Nat.zero_add]
    rw [Nat.mul_assoc, Nat.mul_comm 256, ← Nat.add_assoc]
theorem dec_cons {c : UInt8} {l : List UInt8} : dec (c :: l) = c.toNat * 256 ^ l.length + dec l := by
  rw [dec, List.foldl_cons, decFrom]; simp
theorem dec_lt : ∀ {l : List UInt8}, dec l < 256 ^ l.length
  | [] => by simp [dec]
  | c :: l => by
    rw [dec_cons, List.length_cons, Nat.pow_succ]
    have := dec_lt (l := l)
    have hc := c.toNat_lt
    have : c.toNat * 256 ^ l.length ≤ 255 * 256 ^ l.length := Nat.mul_le_mul_right _ (by omega)
    omega
theorem dec_snoc {c : UInt8} {l : List UInt8} : dec (l ++ [c]) = dec l * 256 + c.toNat := by simp [dec]
theorem dec_enc {n : Nat} : ∀ {k : Nat}, dec (enc n k) = n % 256 ^ k
  | 0 => by simp [enc, dec, Nat.mod_one]
  | k + 1 => by
    rw [enc, dec_cons, enc_length, dec_enc]
    simp only [UInt8.toNat_ofNat']
    have : (2 ^ 8 : Nat) = 256 := rfl
    rw [this, Nat.pow_succ, Nat.mod_mul, Nat.mul_comm, Nat.add_comm]
theorem enc_mod : ∀ {k n j : Nat}, k ≤ j → enc (n % 256 ^ j) k = enc n k
  | 0, _, _, _ => rfl
  | k + 1, n, j, h => by
    rw [enc, enc, enc_mod (by omega)]
    congr 1
    apply UInt8.toNat_inj.1
    simp only [UInt8.toNat_ofNat']
    have h1 : 256 ^ j = 256 ^ k * 256 ^ (j - k) := by rw [← Nat.pow_add]; congr 1; omega
    have h2 : 256 ^ (j - k) = 256 * 256 ^ (j - k - 1) := by rw [Nat.mul_comm, ← Nat.pow_succ]; congr 1; omega
    have h3 : (2 ^ 8 : Nat) = 256 := rfl
    rw [h1, Nat.mod_mul_right_div_self, h3, h2, Nat.mod_mul_right_mod]
theorem enc_dec : ∀ {l : List UInt8}, enc (dec l) l.length = l
  | [] => rfl
  | c :: l => by
    have hl := dec_lt (l := l)
    have hpos : 0 < 256 ^ l.length := Nat.pow_pos (by omega)
    have h1 : enc (dec (c :: l)) l.length = l := by
      rw [← enc_mod (Nat.le_refl _), dec_cons, Nat.mul_comm, Nat.mul_add_mod, Nat.mod_eq_of_lt hl]
      exact enc_dec
    rw [List.length_cons, enc, h1]
    congr 1
    rw [dec_cons, Nat.mul_comm, Nat.mul_add_div hpos, Nat.div_eq_of_lt hl]
    simp
end Rec
