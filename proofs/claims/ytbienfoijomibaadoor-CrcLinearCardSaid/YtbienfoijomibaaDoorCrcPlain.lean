/- The plain law of the sum of chapter 2: bits, nibbles, bytes; linear; no two states meet. -/
namespace Go.Proofs.YtbienfoijomibaaDoor.CrcPlain

def poly : BitVec 32 := 0xedb88320#32
def B (w : BitVec 32) : BitVec 32 := (w >>> 1) ^^^ (if w.getLsbD 0 then poly else 0#32)

theorem B_xor (x y : BitVec 32) : B (x ^^^ y) = B x ^^^ B y := by
  unfold B
  rw [BitVec.getLsbD_xor, BitVec.ushiftRight_xor_distrib]
  cases x.getLsbD 0 <;> cases y.getLsbD 0 <;> simp
  · ac_rfl
  · ac_rfl
  · apply BitVec.eq_of_getLsbD_eq
    intro i hi
    simp only [BitVec.getLsbD_xor]
    cases (x >>> 1).getLsbD i <;> cases (y >>> 1).getLsbD i <;> cases poly.getLsbD i <;> rfl

theorem B_zero : B 0#32 = 0#32 := by decide

def Bn : Nat → BitVec 32 → BitVec 32
  | 0, w => w
  | n + 1, w => Bn n (B w)

theorem Bn_xor (n : Nat) : ∀ x y, Bn n (x ^^^ y) = Bn n x ^^^ Bn n y := by
  induction n with
  | zero => intros; rfl
  | succ n ih => intro x y; simp only [Bn]; rw [B_xor, ih]
theorem Bn_zero (n : Nat) : Bn n 0#32 = 0#32 := by
  induction n with
  | zero => rfl
  | succ n ih => simp only [Bn]; rw [B_zero, ih]
theorem Bn_add (m n : Nat) : ∀ w, Bn (m + n) w = Bn n (Bn m w) := by
  induction m with
  | zero => intro w; rw [Nat.zero_add]; rfl
  | succ m ih => intro w; rw [show m + 1 + n = (m + n) + 1 by omega]; simp only [Bn]; rw [ih]

/-- no low bit: a shift. -/
theorem B_even (x : BitVec 32) (h : x.getLsbD 0 = false) : B x = x >>> 1 := by
  unfold B; rw [h]; simp

theorem Bn_low (n : Nat) : ∀ (x : BitVec 32), (∀ i, i < n → x.getLsbD i = false) → Bn n x = x >>> n := by
  induction n with
  | zero => intro x _; simp [Bn]
  | succ n ih =>
    intro x h
    simp only [Bn]
    rw [B_even x (h 0 (by omega)), ih]
    · rw [← BitVec.shiftRight_add, Nat.add_comm]
    · intro i hi
      rw [BitVec.getLsbD_ushiftRight]
      exact h _ (by omega)

/-- injective -/
theorem B_top (x : BitVec 32) : (B x).getLsbD 31 = x.getLsbD 0 := by
  unfold B
  rw [BitVec.getLsbD_xor, BitVec.getLsbD_ushiftRight]
  cases h : x.getLsbD 0
  · simp
  · simp; decide
theorem B_eq_zero (x : BitVec 32) (h : B x = 0#32) : x = 0#32 := by
  have ht := B_top x
  rw [h] at ht
  have h0 : x.getLsbD 0 = false := by simpa using ht.symm
  rw [B_even x h0] at h
  apply BitVec.eq_of_getLsbD_eq
  intro i hi
  rcases Nat.eq_zero_or_pos i with rfl | hp
  · rw [h0]; simp
  · have := congrArg (fun v => v.getLsbD (i - 1)) h
    simp only [BitVec.getLsbD_ushiftRight] at this
    rw [show 1 + (i - 1) = i by omega] at this
    rw [this]; simp
theorem Bn_eq_zero (n : Nat) : ∀ x, Bn n x = 0#32 → x = 0#32 := by
  induction n with
  | zero => intro x h; exact h
  | succ n ih => intro x h; exact B_eq_zero _ (ih _ h)
theorem xor_eq_zero {x y : BitVec 32} (h : x ^^^ y = 0#32) : x = y := by
  have : x ^^^ y ^^^ y = 0#32 ^^^ y := by rw [h]
  rwa [BitVec.xor_assoc, BitVec.xor_self, BitVec.xor_zero, BitVec.zero_xor] at this
theorem Bn_inj (n : Nat) (x y : BitVec 32) (h : Bn n x = Bn n y) : x = y := by
  apply xor_eq_zero
  apply Bn_eq_zero n
  rw [Bn_xor, h, BitVec.xor_self]

def table : List (BitVec 32) := [0x00000000#32, 0x1db71064#32, 0x3b6e20c8#32, 0x26d930ac#32, 0x76dc4190#32, 0x6b6b51f4#32, 0x4db26158#32, 0x5005713c#32,
  0xedb88320#32, 0xf00f9344#32, 0xd6d6a3e8#32, 0xcb61b38c#32, 0x9b64c2b0#32, 0x86d3d2d4#32, 0xa00ae278#32, 0xbdbdf21c#32]

theorem low_nib : ∀ n : Fin 16, Bn 4 (BitVec.ofNat 32 n.val) = table.getD n.val 0#32 := by decide

theorem nib (w : BitVec 32) : Bn 4 w = (w >>> 4) ^^^ table.getD (w &&& 15#32).toNat 0#32 := by
  have e : w = (w &&& ~~~15#32) ^^^ (w &&& 15#32) := by
    apply BitVec.eq_of_getLsbD_eq
    intro i hi
    simp only [BitVec.getLsbD_xor, BitVec.getLsbD_and, BitVec.getLsbD_not, hi, decide_true, Bool.true_and]
    cases w.getLsbD i <;> cases (15#32).getLsbD i <;> rfl
  have hlt : (w &&& 15#32).toNat < 16 := by
    rw [BitVec.toNat_and]
    exact Nat.lt_of_le_of_lt Nat.and_le_right (by decide)
  have h1 : Bn 4 (w &&& ~~~15#32) = w >>> 4 := by
    rw [Bn_low]
    · apply BitVec.eq_of_getLsbD_eq
      intro i hi
      simp only [BitVec.getLsbD_ushiftRight, BitVec.getLsbD_and, BitVec.getLsbD_not]
      by_cases hb : 4 + i < 32
      · have : (15#32).getLsbD (4 + i) = false := by
          simp only [BitVec.getLsbD_ofNat]
          have : Nat.testBit 15 (4 + i) = false := Nat.testBit_lt_two_pow (by
            calc 15 < 2 ^ 4 := by decide
              _ ≤ 2 ^ (4 + i) := Nat.pow_le_pow_right (by decide) (by omega))
          rw [this]; simp
        rw [this]; simp [hb]
      · simp [hb, BitVec.getLsbD_of_ge w (4 + i) (by omega)]
    · intro i hi
      have : i = 0 ∨ i = 1 ∨ i = 2 ∨ i = 3 := by omega
      rcases this with rfl | rfl | rfl | rfl <;> simp
  have h2 : Bn 4 (w &&& 15#32) = table.getD (w &&& 15#32).toNat 0#32 := by
    have := low_nib ⟨(w &&& 15#32).toNat, hlt⟩
    simp only [BitVec.ofNat_toNat] at this
    simpa using this
  rw [← h1, ← h2, ← Bn_xor, ← e]

/-- A byte laid into a state. -/
def step (w : BitVec 32) (c : Nat) : BitVec 32 := Bn 8 (w ^^^ BitVec.ofNat 32 c)
def run (w : BitVec 32) (l : List Nat) : BitVec 32 := l.foldl step w

theorem step_inj (c : Nat) (x y : BitVec 32) (h : step x c = step y c) : x = y := by
  have := Bn_inj 8 _ _ h
  apply xor_eq_zero
  have h2 : (x ^^^ BitVec.ofNat 32 c) ^^^ (y ^^^ BitVec.ofNat 32 c) = 0#32 := by rw [this, BitVec.xor_self]
  rw [← h2]
  apply BitVec.eq_of_getLsbD_eq
  intro i hi
  simp only [BitVec.getLsbD_xor]
  cases x.getLsbD i <;> cases y.getLsbD i <;> cases (BitVec.ofNat 32 c).getLsbD i <;> rfl
theorem run_inj (l : List Nat) : ∀ x y, run x l = run y l → x = y := by
  induction l with
  | nil => intro x y h; exact h
  | cons c l ih => intro x y h; exact step_inj c _ _ (ih _ _ h)


theorem run_append (w : BitVec 32) (a b : List Nat) : run w (a ++ b) = run (run w a) b := by simp [run, List.foldl_append]

theorem ofNat_xor (a b : Nat) : BitVec.ofNat 32 (a ^^^ b) = BitVec.ofNat 32 a ^^^ BitVec.ofNat 32 b := by
  apply BitVec.eq_of_getLsbD_eq
  intro i hi
  simp [hi]

theorem xor4 (a b c d : BitVec 32) : (a ^^^ b) ^^^ (c ^^^ d) = (a ^^^ c) ^^^ (b ^^^ d) := by
  apply BitVec.eq_of_getLsbD_eq
  intro i hi
  simp only [BitVec.getLsbD_xor]
  cases a.getLsbD i <;> cases b.getLsbD i <;> cases c.getLsbD i <;> cases d.getLsbD i <;> rfl

theorem step_xor (x y : BitVec 32) (a b : Nat) : step (x ^^^ y) (a ^^^ b) = step x a ^^^ step y b := by
  unfold step
  rw [ofNat_xor, xor4, Bn_xor]

theorem run_xor : ∀ (a b : List Nat) (x y : BitVec 32), a.length = b.length → run (x ^^^ y) (List.zipWith (· ^^^ ·) a b) = run x a ^^^ run y b := by
  intro a
  induction a with
  | nil =>
    intro b x y h
    have : b = [] := List.eq_nil_of_length_eq_zero (by simpa using h.symm)
    subst this; rfl
  | cons c a ih =>
    intro b x y h
    cases b with
    | nil => simp at h
    | cons d b =>
      have h' : a.length = b.length := by simpa using h
      show run (step (x ^^^ y) (c ^^^ d)) (List.zipWith (· ^^^ ·) a b) = run (step x c) a ^^^ run (step y d) b
      rw [step_xor, ih b _ _ h']

/-- The sum as the document has it. -/
def more (s : BitVec 32) (l : List Nat) : BitVec 32 := ~~~ (run (~~~ s) l)
def sum (rows : List (List Nat)) : BitVec 32 := rows.foldl more 0#32

theorem not_not (x : BitVec 32) : ~~~ (~~~ x) = x := by simp
theorem not_inj {x y : BitVec 32} (h : ~~~ x = ~~~ y) : x = y := by rw [← not_not x, h, not_not]
theorem more_append (s : BitVec 32) (a b : List Nat) : more s (a ++ b) = more (more s a) b := by
  unfold more; rw [not_not, run_append]
theorem more_nil (s : BitVec 32) : more s [] = s := by unfold more; simp [run]
theorem sum_eq (rows : List (List Nat)) (s : BitVec 32) : rows.foldl more s = more s rows.flatten := by
  induction rows generalizing s with
  | nil => simp [more_nil]
  | cons r rows ih => simp only [List.foldl_cons, List.flatten_cons, ih, more_append]
theorem more_inj (l : List Nat) (x y : BitVec 32) (h : more x l = more y l) : x = y := not_inj (run_inj l _ _ (not_inj h))

/-- CrcLinear's first part. -/
theorem linear (a b z : List Nat) (h : a.length = b.length) (hz : z = List.replicate a.length 0) :
    more 0#32 (List.zipWith (· ^^^ ·) a b) = more 0#32 a ^^^ more 0#32 b ^^^ more 0#32 z := by
  subst hz
  have e1 : List.zipWith (· ^^^ ·) (List.zipWith (· ^^^ ·) a b) (List.replicate a.length 0) = List.zipWith (· ^^^ ·) a b := by
    apply List.ext_getElem
    · simp [h]
    · intro i h1 h2; simp
  have k := run_xor (List.zipWith (· ^^^ ·) a b) (List.replicate a.length 0) (~~~ 0#32 ^^^ ~~~ 0#32) (~~~ 0#32) (by simp [h])
  have hs : (~~~ 0#32 ^^^ ~~~ 0#32) ^^^ ~~~ 0#32 = ~~~ 0#32 := by decide
  rw [hs, e1, run_xor a b _ _ h] at k
  unfold more
  rw [k]
  apply BitVec.eq_of_getLsbD_eq
  intro i hi
  simp only [BitVec.getLsbD_xor, BitVec.getLsbD_not, hi, decide_true, Bool.true_and]
  cases (run (~~~0#32) a).getLsbD i <;> cases (run (~~~0#32) b).getLsbD i <;> cases (run (~~~0#32) (List.replicate a.length 0)).getLsbD i <;> rfl

/-- A bit turned in a list. -/
def flip (l : List Nat) (j : Nat) : List Nat := l.set (j / 8) (l.getD (j / 8) 0 ^^^ 2 ^ (j % 8))

theorem two_pow_low (i t : Nat) (h : i < t) : (BitVec.ofNat 32 (2 ^ t)).getLsbD i = false := by
  simp [BitVec.getLsbD_ofNat, Nat.testBit_two_pow]; omega
theorem two_pow_shift (n t : Nat) (h : n ≤ t) (ht : t < 32) : (BitVec.ofNat 32 (2 ^ t)) >>> n = BitVec.ofNat 32 (2 ^ (t - n)) := by
  apply BitVec.eq_of_getLsbD_eq
  intro i hi
  rw [BitVec.getLsbD_ushiftRight]
  simp only [BitVec.getLsbD_ofNat, Nat.testBit_two_pow, hi, decide_true, Bool.true_and]
  by_cases e : t = n + i
  · subst e; simp; omega
  · have e' : ¬ (t - n = i) := by omega
    simp [e, e']
theorem Bn_pow (n t : Nat) (h : n ≤ t) (ht : t < 32) : Bn n (BitVec.ofNat 32 (2 ^ t)) = BitVec.ofNat 32 (2 ^ (t - n)) := by
  rw [Bn_low n _ (fun i hi => two_pow_low i t (by omega)), two_pow_shift n t h ht]
theorem Bn_one (m t : Nat) (h : t ≤ m) (ht : t < 32) : Bn m (BitVec.ofNat 32 (2 ^ t)) = Bn (m - t) 1#32 := by
  have e : m = t + (m - t) := by omega
  have : Bn m (BitVec.ofNat 32 (2 ^ t)) = Bn (t + (m - t)) (BitVec.ofNat 32 (2 ^ t)) := by rw [← e]
  rw [this, Bn_add, Bn_pow t t (Nat.le_refl _) ht]
  simp
theorem run_zero_xor (x y : BitVec 32) (l : List Nat) : run (x ^^^ y) l = run x l ^^^ Bn (8 * l.length) y := by
  induction l generalizing x y with
  | nil => rfl
  | cons c l ih =>
    show run (step (x ^^^ y) c) l = run (step x c) l ^^^ _
    have e : step (x ^^^ y) c = step x c ^^^ Bn 8 y := by
      have := step_xor x y c 0
      simp only [Nat.xor_zero] at this
      rw [this]; congr 1
      unfold step; simp
    rw [e, ih, List.length_cons, show 8 * (l.length + 1) = 8 + 8 * l.length by omega, Bn_add]
theorem run_flip (w : BitVec 32) (l : List Nat) (j : Nat) (hj : j < 8 * l.length) : run w (flip l j) = run w l ^^^ Bn (8 * l.length - j) 1#32 := by
  have hlt : j / 8 < l.length := by omega
  have e1 : l = l.take (j / 8) ++ l[j / 8] :: l.drop (j / 8 + 1) := by
    rw [List.getElem_cons_drop hlt, List.take_append_drop]
  have e2 : flip l j = l.take (j / 8) ++ (l[j / 8] ^^^ 2 ^ (j % 8)) :: l.drop (j / 8 + 1) := by
    unfold flip
    rw [List.set_eq_take_append_cons_drop, if_pos hlt]
    simp [List.getD_eq_getElem?_getD, List.getElem?_eq_getElem hlt]
  have e3 : run w l = run (step (run w (l.take (j / 8))) l[j / 8]) (l.drop (j / 8 + 1)) := by
    conv => lhs; rw [e1]
    rw [run_append]; rfl
  have e4 : run w (flip l j) = run (step (run w (l.take (j / 8))) (l[j / 8] ^^^ 2 ^ (j % 8))) (l.drop (j / 8 + 1)) := by
    rw [e2, run_append]; rfl
  have e5 : step (run w (l.take (j / 8))) (l[j / 8] ^^^ 2 ^ (j % 8)) = step (run w (l.take (j / 8))) l[j / 8] ^^^ Bn (8 - j % 8) 1#32 := by
    have := step_xor (run w (l.take (j / 8))) 0#32 l[j / 8] (2 ^ (j % 8))
    rw [BitVec.xor_zero] at this
    rw [this]; congr 1
    unfold step
    rw [BitVec.zero_xor, Bn_one 8 (j % 8) (by omega) (by omega)]
  rw [e4, e5, run_zero_xor, ← e3, ← Bn_add]
  congr 2
  rw [List.length_drop]; omega

/-- The state of the turning loop: behind i rounds. -/
def turn (l : List Nat) (k : Nat) (r : Nat) : Nat → List Nat
  | 0 => l
  | i + 1 => if r.testBit i then flip (turn l k r i) (k + i) else turn l k r i
theorem flip_length (l : List Nat) (j : Nat) : (flip l j).length = l.length := by simp [flip]
theorem turn_length (l : List Nat) (k r i : Nat) : (turn l k r i).length = l.length := by
  induction i with
  | zero => rfl
  | succ i ih => unfold turn; split <;> simp [flip_length, ih]
theorem mod_succ_bit (r i : Nat) : r % 2 ^ (i + 1) = r % 2 ^ i + (if r.testBit i then 2 ^ i else 0) := by
  have h := Nat.mod_mul (x := r) (a := 2 ^ i) (b := 2)
  rw [← Nat.pow_succ] at h
  rw [h]
  congr 1
  rw [Nat.testBit_eq_decide_div_mod_eq]
  rcases Nat.mod_two_eq_zero_or_one (r / 2 ^ i) with e | e <;> simp [e]
theorem ofNat_add_bit (r i : Nat) : BitVec.ofNat 32 (r % 2 ^ i + 2 ^ i) = BitVec.ofNat 32 (r % 2 ^ i) ^^^ BitVec.ofNat 32 (2 ^ i) := by
  rw [← ofNat_xor]
  congr 1
  have hlt : r % 2 ^ i < 2 ^ i := Nat.mod_lt _ (Nat.two_pow_pos i)
  have ha : 2 ^ i + r % 2 ^ i = 2 ^ i ||| r % 2 ^ i := by
    have := Nat.two_pow_add_eq_or_of_lt hlt 1
    simpa using this
  rw [Nat.add_comm, ha]
  apply Nat.eq_of_testBit_eq
  intro q
  rw [Nat.testBit_or, Nat.testBit_xor, Nat.testBit_two_pow, Nat.testBit_mod_two_pow]
  by_cases e : i = q
  · subst e; simp
  · simp [e]
theorem run_turn (w : BitVec 32) (l : List Nat) (k r : Nat) (i : Nat) (h32 : i ≤ 32) (hi : k + i ≤ 8 * l.length) :
    run w (turn l k r i) = run w l ^^^ Bn (8 * l.length - k) (BitVec.ofNat 32 (r % 2 ^ i)) := by
  induction i with
  | zero => simp [turn, Nat.mod_one, Bn_zero]
  | succ i ih =>
    have ih := ih (by omega) (by omega)
    unfold turn
    rw [mod_succ_bit]
    cases hb : r.testBit i
    · simp [ih]
    · simp only [if_true]
      rw [run_flip w _ _ (by rw [turn_length]; omega), ih, turn_length, ofNat_add_bit, Bn_xor, BitVec.xor_assoc]
      congr 1
      rw [Bn_one (8 * l.length - k) i (by omega) (by omega)]
      congr 2
      omega
theorem turn_tells (l : List Nat) (k r i : Nat) (h32 : i ≤ 32) (hi : k + i ≤ 8 * l.length) :
    (more 0#32 l = more 0#32 (turn l k r i)) ↔ r % 2 ^ i = 0 := by
  unfold more
  constructor
  · intro h
    have h := not_inj h
    rw [run_turn _ l k r i h32 hi] at h
    have : Bn (8 * l.length - k) (BitVec.ofNat 32 (r % 2 ^ i)) = 0#32 := by
      have e : run (~~~0#32) l ^^^ run (~~~0#32) l = run (~~~0#32) l ^^^ (run (~~~0#32) l ^^^ Bn (8 * l.length - k) (BitVec.ofNat 32 (r % 2 ^ i))) := by rw [← h]
      rw [BitVec.xor_self, ← BitVec.xor_assoc, BitVec.xor_self, BitVec.zero_xor] at e
      exact e.symm
    have := Bn_eq_zero _ _ this
    have h2 := congrArg BitVec.toNat this
    simp only [BitVec.toNat_ofNat] at h2
    have hlt : r % 2 ^ i < 2 ^ 32 := Nat.lt_of_lt_of_le (Nat.mod_lt _ (Nat.two_pow_pos i)) (Nat.pow_le_pow_right (by decide) h32)
    rw [Nat.mod_eq_of_lt hlt] at h2
    simpa using h2
  · intro h
    rw [run_turn _ l k r i h32 hi, h]
    simp [Bn_zero]
end Go.Proofs.YtbienfoijomibaaDoor.CrcPlain
