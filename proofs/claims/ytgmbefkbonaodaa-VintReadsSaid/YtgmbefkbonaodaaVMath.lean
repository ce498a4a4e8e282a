/- The checksum as plain mathematics over natural numbers: one step is linear over exclusive or and loses nothing; hence the sums of bytes laid over each other, and of bytes that differ within 32 bits. Condition of each theorem: numbers below 2^32, bytes below 256. -/
import Derived.Laws.BitsAllLaws
namespace Go.Proofs.Ytgmbefkbonaodaa.VMath

def stp (c : Nat) : Nat := if c % 2 = 1 then (c / 2) ^^^ 3988292384 else c / 2

theorem xor0 {a b : Nat} (h : a ^^^ b = 0) : a = b := by
  have h1 : (a ^^^ b) ^^^ b = a := by rw [Nat.xor_assoc, Nat.xor_self, Nat.xor_zero]
  rw [h, Nat.zero_xor] at h1
  exact h1.symm

theorem half_xor (a b : Nat) : (a ^^^ b) / 2 = a / 2 ^^^ b / 2 := by
  have h := Nat.shiftRight_xor_distrib (a := a) (b := b) (i := 1)
  simpa [Nat.shiftRight_succ] using h

theorem stp_xor (a b : Nat) : stp (a ^^^ b) = stp a ^^^ stp b := by
  have hm : (a ^^^ b) % 2 = (a + b) % 2 := by
    have h1 := Nat.xor_mod_two_eq_one (a := a) (b := b)
    omega
  unfold stp
  rw [hm, half_xor]
  rcases Nat.mod_two_eq_zero_or_one a with ha | ha <;> rcases Nat.mod_two_eq_zero_or_one b with hb | hb
  · rw [if_neg (by omega), if_neg (by omega), if_neg (by omega)]
  · rw [if_pos (by omega), if_neg (by omega), if_pos hb, Nat.xor_assoc]
  · rw [if_pos (by omega), if_pos ha, if_neg (by omega), Nat.xor_assoc, Nat.xor_assoc, Nat.xor_comm (b / 2)]
  · rw [if_neg (by omega), if_pos ha, if_pos hb]
    rw [Nat.xor_assoc, ← Nat.xor_assoc 3988292384, Nat.xor_comm 3988292384 (b / 2), Nat.xor_assoc, Nat.xor_self, Nat.xor_zero]

theorem stp_lt (c : Nat) (h : c < 4294967296) : stp c < 4294967296 := by
  unfold stp
  split
  · exact Nat.xor_lt_two_pow (n := 32) (by omega) (by decide)
  · omega

theorem stp_zero (c : Nat) (h : c < 4294967296) (hz : stp c = 0) : c = 0 := by
  unfold stp at hz
  split at hz
  · have := xor0 hz
    omega
  · omega

def steps : Nat → Nat → Nat
  | 0, c => c
  | n + 1, c => steps n (stp c)

theorem steps_xor (n : Nat) : ∀ a b, steps n (a ^^^ b) = steps n a ^^^ steps n b := by
  induction n with
  | zero => intro a b; rfl
  | succ n ih => intro a b; simp only [steps]; rw [stp_xor, ih]

theorem steps_lt (n : Nat) : ∀ c, c < 4294967296 → steps n c < 4294967296 := by
  induction n with
  | zero => intro c h; exact h
  | succ n ih => intro c h; exact ih _ (stp_lt c h)

theorem steps_zero (n : Nat) : ∀ c, c < 4294967296 → steps n c = 0 → c = 0 := by
  induction n with
  | zero => intro c _ h; exact h
  | succ n ih => intro c h hz; exact stp_zero c h (ih _ (stp_lt c h) hz)

theorem steps_inj (n a b : Nat) (ha : a < 4294967296) (hb : b < 4294967296) (h : steps n a = steps n b) : a = b := by
  have h1 : steps n (a ^^^ b) = 0 := by rw [steps_xor, h, Nat.xor_self]
  exact xor0 (steps_zero n _ (Nat.xor_lt_two_pow (n := 32) ha hb) h1)

/-- Bytes that are nought are shifted out. -/
theorem steps_shift (n : Nat) : ∀ y, steps n (2 ^ n * y) = y := by
  induction n with
  | zero => intro y; simp [steps]
  | succ n ih =>
    intro y
    have h : stp (2 ^ (n + 1) * y) = 2 ^ n * y := by
      unfold stp
      rw [show 2 ^ (n + 1) * y = 2 * (2 ^ n * y) by rw [Nat.pow_succ, Nat.mul_comm (2 ^ n) 2, Nat.mul_assoc], if_neg (by omega)]
      omega
    simp only [steps, h]
    exact ih y

def up (c x : Nat) : Nat := steps 8 (c ^^^ x)
def crc (c : Nat) (l : List Nat) : Nat := l.foldl up c

theorem up_lt (c x : Nat) (hc : c < 4294967296) (hx : x < 256) : up c x < 4294967296 := steps_lt 8 _ (Nat.xor_lt_two_pow (n := 32) hc (by omega))

theorem crc_lt (l : List Nat) : ∀ c, c < 4294967296 → (∀ x ∈ l, x < 256) → crc c l < 4294967296 := by
  induction l with
  | nil => intro c hc _; exact hc
  | cons x r ih => intro c hc hl; exact ih _ (up_lt c x hc (hl x (by simp))) (fun y hy => hl y (by simp [hy]))

theorem up_xor (c d x y : Nat) : up (c ^^^ d) (x ^^^ y) = up c x ^^^ up d y := by
  unfold up
  rw [← steps_xor]
  congr 1
  rw [Nat.xor_assoc, Nat.xor_assoc, ← Nat.xor_assoc d, ← Nat.xor_assoc x, Nat.xor_comm d x]

theorem crc_xor (a : List Nat) : ∀ (b : List Nat) (c d : Nat), a.length = b.length → crc (c ^^^ d) (List.zipWith (· ^^^ ·) a b) = crc c a ^^^ crc d b := by
  induction a with
  | nil => intro b c d h; obtain rfl := List.eq_nil_of_length_eq_zero (l := b) (by simpa using h.symm); rfl
  | cons x a ih =>
    intro b c d h
    cases b with
    | nil => simp at h
    | cons y b =>
      show crc (up (c ^^^ d) (x ^^^ y)) (List.zipWith (· ^^^ ·) a b) = crc (up c x) a ^^^ crc (up d y) b
      rw [up_xor]
      exact ih b _ _ (by simpa using h)

theorem crc_inj (l : List Nat) : ∀ c d, c < 4294967296 → d < 4294967296 → (∀ x ∈ l, x < 256) → crc c l = crc d l → c = d := by
  induction l with
  | nil => intro c d _ _ _ h; exact h
  | cons x r ih =>
    intro c d hc hd hl h
    have hx : x < 256 := hl x (by simp)
    have h1 := ih _ _ (up_lt c x hc hx) (up_lt d x hd hx) (fun y hy => hl y (by simp [hy])) h
    have h2 := steps_inj 8 _ _ (Nat.xor_lt_two_pow (n := 32) hc (by omega)) (Nat.xor_lt_two_pow (n := 32) hd (by omega)) h1
    have h3 := congrArg (· ^^^ x) h2
    simpa [Nat.xor_assoc] using h3

theorem crc_cons (c x : Nat) (l : List Nat) : crc c (x :: l) = crc (up c x) l := by simp [crc]

theorem crc_append (c : Nat) (a b : List Nat) : crc c (a ++ b) = crc (crc c a) b := by simp [crc]

/-- A burst within 32 bits turns the state behind it. -/
theorem burst (d0 d1 d2 d3 : Nat) (h0 : d0 < 256) (h1 : d1 < 256) (h2 : d2 < 256) (h3 : d3 < 256) (h : up (up (up (up 0 d0) d1) d2) d3 = 0) : d0 = 0 ∧ d1 = 0 ∧ d2 = 0 ∧ d3 = 0 := by
  have e : ∀ a b : Nat, a ^^^ b = 0 → a = b := fun a b h => xor0 h
  have x : ∀ a b c : Nat, a ^^^ b = c → a = c ^^^ b := fun a b c h => by rw [← h, Nat.xor_assoc, Nat.xor_self, Nat.xor_zero]
  have L : ∀ y, y < 16777216 → 256 * y < 4294967296 := fun y hy => by omega
  unfold up at h
  rw [Nat.zero_xor] at h
  have s0 := steps_lt 8 d0 (by omega)
  have a1 : steps 8 d0 ^^^ d1 < 4294967296 := Nat.xor_lt_two_pow (n := 32) s0 (by omega)
  have s1 := steps_lt 8 _ a1
  have a2 : steps 8 (steps 8 d0 ^^^ d1) ^^^ d2 < 4294967296 := Nat.xor_lt_two_pow (n := 32) s1 (by omega)
  have s2 := steps_lt 8 _ a2
  have a3 : steps 8 (steps 8 (steps 8 d0 ^^^ d1) ^^^ d2) ^^^ d3 < 4294967296 := Nat.xor_lt_two_pow (n := 32) s2 (by omega)
  have g3 := e _ _ (steps_zero 8 _ a3 h)
  have k3 := steps_shift 8 d3
  have g2 := steps_inj 8 _ _ a2 (L d3 (by omega)) (g3.trans k3.symm)
  have y2 : 2 ^ 8 * d3 ^^^ d2 < 65536 := Nat.xor_lt_two_pow (n := 16) (by omega) (by omega)
  have g2' := x _ _ _ g2
  have k2 := steps_shift 8 (2 ^ 8 * d3 ^^^ d2)
  have g1 := steps_inj 8 _ _ a1 (L _ (by omega)) (g2'.trans k2.symm)
  have g1' := x _ _ _ g1
  have y1 : 2 ^ 8 * (2 ^ 8 * d3 ^^^ d2) ^^^ d1 < 16777216 := Nat.xor_lt_two_pow (n := 24) (by omega) (by omega)
  have k1 := steps_shift 8 (2 ^ 8 * (2 ^ 8 * d3 ^^^ d2) ^^^ d1)
  have g0 := steps_inj 8 _ _ (by omega) (L _ y1) (g1'.trans k1.symm)
  have z1 : 2 ^ 8 * (2 ^ 8 * d3 ^^^ d2) ^^^ d1 = 0 := by omega
  have z2 := e _ _ z1
  have z3 : 2 ^ 8 * d3 ^^^ d2 = 0 := by omega
  have z4 := e _ _ z3
  omega

theorem up_diff (s b d : Nat) : up s (b ^^^ d) = up s b ^^^ up 0 d := by
  have h := up_xor s 0 b d
  rwa [Nat.xor_zero] at h

theorem up_diff2 (s e b d : Nat) : up (s ^^^ e) (b ^^^ d) = up s b ^^^ up e d := up_xor s e b d

/-- Four bytes side by side that are turned, what stands around them alike: the sums differ. -/
theorem crc_burst (c : Nat) (hc : c < 4294967296) (p q : List Nat) (hp : ∀ x ∈ p, x < 256) (hq : ∀ x ∈ q, x < 256) (b0 b1 b2 b3 d0 d1 d2 d3 : Nat)
    (hb0 : b0 < 256) (hb1 : b1 < 256) (hb2 : b2 < 256) (hb3 : b3 < 256) (h0 : d0 < 256) (h1 : d1 < 256) (h2 : d2 < 256) (h3 : d3 < 256)
    (h : crc c (p ++ b0 :: b1 :: b2 :: b3 :: q) = crc c (p ++ (b0 ^^^ d0) :: (b1 ^^^ d1) :: (b2 ^^^ d2) :: (b3 ^^^ d3) :: q)) : d0 = 0 ∧ d1 = 0 ∧ d2 = 0 ∧ d3 = 0 := by
  have X : ∀ a b : Nat, a < 256 → b < 256 → a ^^^ b < 256 := fun a b ha hb => Nat.xor_lt_two_pow (n := 8) ha hb
  rw [crc_append, crc_append] at h
  have hs := crc_lt p c hc hp
  obtain ⟨s, hse⟩ : ∃ s, s = crc c p := ⟨_, rfl⟩
  rw [← hse] at h hs
  have h' := h
  simp only [crc_cons] at h'
  have u0 := up_lt s b0 hs hb0
  have u1 := up_lt _ b1 u0 hb1
  have u2 := up_lt _ b2 u1 hb2
  have u3 := up_lt _ b3 u2 hb3
  have v0 := up_lt s _ hs (X b0 d0 hb0 h0)
  have v1 := up_lt _ _ v0 (X b1 d1 hb1 h1)
  have v2 := up_lt _ _ v1 (X b2 d2 hb2 h2)
  have v3 := up_lt _ _ v2 (X b3 d3 hb3 h3)
  have he := crc_inj q _ _ u3 v3 hq h'
  rw [up_diff s b0 d0, up_diff2 (up s b0) _ b1 d1, up_diff2 _ _ b2 d2, up_diff2 _ _ b3 d3] at he
  refine burst d0 d1 d2 d3 h0 h1 h2 h3 ?_
  have h5 := congrArg (up (up (up (up s b0) b1) b2) b3 ^^^ ·) he
  simp only [Nat.xor_self] at h5
  rw [← Nat.xor_assoc, Nat.xor_self, Nat.zero_xor] at h5
  exact h5.symm
end Go.Proofs.Ytgmbefkbonaodaa.VMath
