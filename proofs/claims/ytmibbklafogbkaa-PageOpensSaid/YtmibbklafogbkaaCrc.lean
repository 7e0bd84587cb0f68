/- Sums of bytes (the polynomial 0xedb88320, bit by bit), as plain arithmetic on numbers: no program in sight. -/
namespace Go.Proofs.Ytmibbklafogbkaa
namespace Crc

def stp (n : Nat) : Nat := if n % 2 = 1 then (n / 2) ^^^ 3988292384 else n / 2

def stps : Nat → Nat → Nat
  | 0, n => n
  | k + 1, n => stps k (stp n)

theorem xor_lcomm (a b c : Nat) : a ^^^ (b ^^^ c) = b ^^^ (a ^^^ c) := by
  rw [← Nat.xor_assoc, Nat.xor_comm a b, Nat.xor_assoc]
theorem xor_cancel (a b : Nat) : a ^^^ (a ^^^ b) = b := by rw [← Nat.xor_assoc, Nat.xor_self, Nat.zero_xor]
theorem xor_inj (a b c : Nat) (h : a ^^^ b = a ^^^ c) : b = c := by
  have := congrArg (fun x => a ^^^ x) h
  simpa [xor_cancel] using this

theorem div_xor (a b : Nat) : (a ^^^ b) / 2 = a / 2 ^^^ b / 2 := by
  have := @Nat.xor_div_two_pow a b 1
  simpa using this

theorem stp_lt {n : Nat} (h : n < 2 ^ 32) : stp n < 2 ^ 32 := by
  unfold stp
  split
  · exact Nat.xor_lt_two_pow (by omega) (by omega)
  · omega

theorem stp_xor (a b : Nat) : stp (a ^^^ b) = stp a ^^^ stp b := by
  unfold stp
  rw [div_xor]
  by_cases ha : a % 2 = 1 <;> by_cases hb : b % 2 = 1
  · rw [if_neg (by rw [Nat.xor_mod_two_eq_one]; simp [ha, hb]), if_pos ha, if_pos hb]
    rw [Nat.xor_assoc, xor_lcomm 3988292384, Nat.xor_self, Nat.xor_zero]
  · rw [if_pos (by rw [Nat.xor_mod_two_eq_one]; simp [ha, hb]), if_pos ha, if_neg hb]
    rw [Nat.xor_assoc, Nat.xor_assoc, Nat.xor_comm (b / 2)]
  · rw [if_pos (by rw [Nat.xor_mod_two_eq_one]; simp [ha, hb]), if_neg ha, if_pos hb]
    rw [Nat.xor_assoc]
  · rw [if_neg (by rw [Nat.xor_mod_two_eq_one]; simp [ha, hb]), if_neg ha, if_neg hb]

theorem stp_zero : stp 0 = 0 := rfl

theorem stp_eq_zero {n : Nat} (hn : n < 2 ^ 32) (h : stp n = 0) : n = 0 := by
  unfold stp at h
  split at h
  · have h2 : n / 2 = 3988292384 := by
      have := congrArg (fun x => x ^^^ 3988292384) h
      simp only [Nat.xor_assoc, Nat.xor_self, Nat.xor_zero, Nat.zero_xor] at this
      exact this
    omega
  · omega

theorem stps_zero_arg (k : Nat) : stps k 0 = 0 := by
  induction k with
  | zero => rfl
  | succ k ih => exact ih

theorem stps_lt (k : Nat) : ∀ {n : Nat}, n < 2 ^ 32 → stps k n < 2 ^ 32 := by
  induction k with
  | zero => intro n h; exact h
  | succ k ih => intro n h; exact ih (stp_lt h)

theorem stps_xor (k : Nat) : ∀ a b : Nat, stps k (a ^^^ b) = stps k a ^^^ stps k b := by
  induction k with
  | zero => intro a b; rfl
  | succ k ih => intro a b; show stps k (stp (a ^^^ b)) = _; rw [stp_xor, ih]; rfl

theorem stps_add (j : Nat) : ∀ (k n : Nat), stps (j + k) n = stps k (stps j n) := by
  induction j with
  | zero => intro k n; rw [Nat.zero_add]; rfl
  | succ j ih => intro k n; rw [Nat.succ_add]; exact ih k (stp n)

theorem stps_succ' (k n : Nat) : stps (k + 1) n = stp (stps k n) := by
  rw [stps_add]; rfl

theorem stps_eq_zero (k : Nat) : ∀ {n : Nat}, n < 2 ^ 32 → stps k n = 0 → n = 0 := by
  induction k with
  | zero => intro n _ h; exact h
  | succ k ih => intro n hn h; exact stp_eq_zero hn (ih (stp_lt hn) h)

/-- a shift of a multiple of 2^k by k steps -/
theorem stps_shift (k : Nat) : ∀ m : Nat, stps k (2 ^ k * m) = m := by
  induction k with
  | zero => intro m; simp [stps]
  | succ k ih =>
    intro m
    show stps k (stp (2 ^ (k + 1) * m)) = m
    have e : 2 ^ (k + 1) * m = 2 * (2 ^ k * m) := by rw [Nat.pow_succ, Nat.mul_comm (2 ^ k) 2, Nat.mul_assoc]
    have : stp (2 ^ (k + 1) * m) = 2 ^ k * m := by
      unfold stp
      rw [e, if_neg (by omega)]
      omega
    rw [this, ih]

theorem lohi (n : Nat) : n = (256 * (n / 256)) ^^^ (n % 256) := by
  have h := Nat.two_pow_add_eq_or_of_lt (i := 8) (b := n % 256) (by omega) (n / 256)
  have e : 256 * (n / 256) + n % 256 = n := by omega
  apply Nat.eq_of_testBit_eq
  intro i
  have h256 : (256 : Nat) = 2 ^ 8 := rfl
  rw [Nat.testBit_xor, h256, Nat.testBit_two_pow_mul, Nat.testBit_mod_two_pow, Nat.testBit_div_two_pow]
  by_cases hi : i < 8
  · simp [hi, show ¬ 8 ≤ i by omega]
  · have : 8 ≤ i := by omega
    simp [hi, this]

/-- a number gone on with a byte -/
def onb (n c : Nat) : Nat := stps 8 (n ^^^ c)
def tab (i : Nat) : Nat := stps 8 i

theorem onb_tab (n c : Nat) : onb n c = (n / 256) ^^^ tab ((n % 256) ^^^ c) := by
  unfold onb tab
  conv => lhs; rw [lohi n, Nat.xor_assoc, stps_xor]
  rw [show (256 : Nat) = 2 ^ 8 from rfl, stps_shift 8]

theorem onb_lt {n c : Nat} (h : n < 2 ^ 32) (hc : c < 256) : onb n c < 2 ^ 32 :=
  stps_lt 8 (Nat.xor_lt_two_pow h (by omega))

def onl (n : Nat) (l : List UInt8) : Nat := l.foldl (fun n c => onb n c.toNat) n

theorem onl_lt (l : List UInt8) : ∀ {n : Nat}, n < 2 ^ 32 → onl n l < 2 ^ 32 := by
  induction l with
  | nil => intro n h; exact h
  | cons c l ih => intro n h; exact ih (onb_lt h c.toNat_lt)

theorem onl_append (n : Nat) (l m : List UInt8) : onl n (l ++ m) = onl (onl n l) m := by
  unfold onl; rw [List.foldl_append]

theorem onl_snoc (n : Nat) (l : List UInt8) (c : UInt8) : onl n (l ++ [c]) = onb (onl n l) c.toNat := by
  rw [onl_append]; rfl

def thr (n size : Nat) : Nat := stps (8 * size) n

theorem thr_lt {n : Nat} (size : Nat) (h : n < 2 ^ 32) : thr n size < 2 ^ 32 := stps_lt _ h
theorem thr_xor (a b size : Nat) : thr (a ^^^ b) size = thr a size ^^^ thr b size := stps_xor _ _ _
theorem thr_zero (n : Nat) : thr n 0 = n := rfl
theorem thr_of_zero (size : Nat) : thr 0 size = 0 := stps_zero_arg _
theorem thr_add (n a b : Nat) : thr (thr n a) b = thr n (a + b) := by
  unfold thr; rw [← stps_add, Nat.mul_add]
theorem thr_succ (n k : Nat) : thr n (k + 1) = onb (thr n k) 0 := by
  unfold thr onb; rw [Nat.mul_add, stps_add]; simp
theorem thr_eq_zero {n : Nat} (size : Nat) (hn : n < 2 ^ 32) (h : thr n size = 0) : n = 0 := stps_eq_zero _ hn h

/-- what two numbers become behind two texts of one length, turned by one another -/
theorem onl_zip (l : List UInt8) : ∀ (m : List UInt8) (a b : Nat), l.length = m.length → onl (a ^^^ b) (List.zipWith (fun x y => x ^^^ y) l m) = onl a l ^^^ onl b m := by
  induction l with
  | nil => intro m a b h; cases m with
    | nil => rfl
    | cons _ _ => simp at h
  | cons c l ih => intro m a b h; cases m with
    | nil => simp at h
    | cons d m =>
      show onl (onb (a ^^^ b) (c ^^^ d).toNat) (List.zipWith (fun x y => x ^^^ y) l m) = onl (onb a c.toNat) l ^^^ onl (onb b d.toNat) m
      rw [← ih m _ _ (by simpa using h)]
      congr 1
      unfold onb
      rw [← stps_xor, UInt8.toNat_xor]
      congr 1
      rw [Nat.xor_assoc, Nat.xor_assoc, xor_lcomm b]

theorem onl_zeros (k : Nat) : ∀ n : Nat, onl n (List.replicate k 0) = thr n k := by
  induction k with
  | zero => intro n; rfl
  | succ k ih =>
    intro n
    rw [List.replicate_succ']
    rw [onl_snoc, ih, thr_succ]; rfl

theorem zip_zero (l : List UInt8) : List.zipWith (fun x y => x ^^^ y) (List.replicate l.length 0) l = l := by
  induction l with
  | nil => rfl
  | cons c l ih => simp only [List.length_cons, List.replicate_succ, List.zipWith_cons_cons, ih]; simp

theorem onl_from (n : Nat) (l : List UInt8) : onl n l = thr n l.length ^^^ onl 0 l := by
  have h := onl_zip (List.replicate l.length 0) l n 0 (by simp)
  rw [zip_zero, Nat.xor_zero, onl_zeros] at h
  exact h

def ones : Nat := 4294967295
def crc (l : List UInt8) : Nat := onl ones l ^^^ ones

theorem ones_lt : ones < 2 ^ 32 := by unfold ones; omega
theorem crc_lt (l : List UInt8) : crc l < 2 ^ 32 := Nat.xor_lt_two_pow (onl_lt l ones_lt) ones_lt

theorem crc_join (l m : List UInt8) : crc (l ++ m) = thr (crc l) m.length ^^^ crc m := by
  unfold crc
  rw [onl_append, onl_from (onl ones l) m, onl_from ones m, thr_xor]
  generalize thr (onl ones l) m.length = x
  generalize thr ones m.length = y
  generalize onl 0 m = z
  rw [Nat.xor_assoc, Nat.xor_assoc, Nat.xor_assoc, xor_cancel]

theorem crc_turn (p l q by' : List UInt8) (h : l.length = by'.length) : crc (p ++ List.zipWith (fun x y => x ^^^ y) l by' ++ q) = crc (p ++ l ++ q) ^^^ thr (onl 0 by') q.length := by
  unfold crc
  rw [onl_append, onl_append, onl_append, onl_append]
  have e := onl_zip l by' (onl ones p) 0 h
  rw [Nat.xor_zero] at e
  rw [e, onl_from (onl (onl ones p) l ^^^ onl 0 by') q, onl_from (onl (onl ones p) l) q, thr_xor]
  generalize thr (onl (onl ones p) l) q.length = x
  generalize thr (onl 0 by') q.length = y
  generalize onl 0 q = z
  rw [Nat.xor_assoc, Nat.xor_assoc, Nat.xor_assoc, Nat.xor_assoc]
  congr 1
  rw [xor_lcomm y z, Nat.xor_comm y]


/-- a matrix of a number -/
def mofTo (m : Nat → Nat) (n : Nat) : Nat → Nat
  | 0 => 0
  | k + 1 => if n / 2 ^ k % 2 = 1 then mofTo m n k ^^^ m k else mofTo m n k

theorem top_bit (n k : Nat) (h : n / 2 ^ k % 2 = 1) : n % 2 ^ (k + 1) = (n % 2 ^ k) ^^^ 2 ^ k := by
  apply Nat.eq_of_testBit_eq
  intro i
  rw [Nat.testBit_xor, Nat.testBit_mod_two_pow, Nat.testBit_mod_two_pow, Nat.testBit_two_pow]
  have hb : n.testBit k = true := by rw [Nat.testBit_eq_decide_div_mod_eq]; simpa using h
  by_cases h1 : i < k
  · simp [h1, show i < k + 1 by omega, show ¬ k = i by omega]
  · by_cases h2 : i = k
    · subst h2; simp [hb]
    · simp [h1, show ¬ i < k + 1 by omega, show ¬ k = i by omega]

theorem top_no (n k : Nat) (h : ¬ n / 2 ^ k % 2 = 1) : n % 2 ^ (k + 1) = n % 2 ^ k := by
  apply Nat.eq_of_testBit_eq
  intro i
  rw [Nat.testBit_mod_two_pow, Nat.testBit_mod_two_pow]
  have hb : n.testBit k = false := by rw [Nat.testBit_eq_decide_div_mod_eq]; simpa using h
  by_cases h1 : i < k
  · simp [h1, show i < k + 1 by omega]
  · by_cases h2 : i = k
    · subst h2; simp [hb]
    · simp [h1, show ¬ i < k + 1 by omega]

theorem mofTo_linear (f : Nat → Nat) (hf : ∀ a b, f (a ^^^ b) = f a ^^^ f b) (n : Nat) (k : Nat) : mofTo (fun i => f (2 ^ i)) n k = f (n % 2 ^ k) := by
  have h0 : f 0 = 0 := by have := hf 0 0; simpa [Nat.xor_self] using this
  induction k with
  | zero => simp [mofTo, h0, Nat.mod_one]
  | succ k ih =>
    unfold mofTo
    split
    · next h => rw [top_bit n k h, hf, ih]
    · next h => rw [top_no n k h, ih]

theorem mofTo_lt (m : Nat → Nat) (n k : Nat) (hm : ∀ i, i < k → m i < 2 ^ 32) : mofTo m n k < 2 ^ 32 := by
  induction k with
  | zero => simp [mofTo]
  | succ k ih =>
    have := ih fun i hi => hm i (by omega)
    unfold mofTo
    split
    · exact Nat.xor_lt_two_pow this (hm k (by omega))
    · exact this

theorem mofTo_congr (m m' : Nat → Nat) (n k : Nat) (h : ∀ i, i < k → m i = m' i) : mofTo m n k = mofTo m' n k := by
  induction k with
  | zero => rfl
  | succ k ih => unfold mofTo; rw [ih fun i hi => h i (by omega), h k (by omega)]

/-- the number whose bytes, the lowest first, a text is -/
def val : List UInt8 → Nat
  | [] => 0
  | c :: l => c.toNat + 256 * val l

theorem add_xor (c v : Nat) (h : c < 256) : c + 256 * v = c ^^^ (256 * v) := by
  have h1 := lohi (c + 256 * v)
  rw [show (c + 256 * v) / 256 = v by omega, show (c + 256 * v) % 256 = c by omega] at h1
  rw [Nat.xor_comm c]; exact h1

theorem val_cons (c : UInt8) (l : List UInt8) : val (c :: l) = c.toNat ^^^ (256 * val l) := add_xor _ _ c.toNat_lt

theorem onl_val (l : List UInt8) : ∀ n : Nat, onl n l = stps (8 * l.length) (n ^^^ val l) := by
  induction l with
  | nil => intro n; simp [onl, val, stps]
  | cons c l ih =>
    intro n
    show onl (onb n c.toNat) l = _
    rw [ih, List.length_cons, Nat.mul_add, Nat.add_comm, stps_add, val_cons, ← Nat.xor_assoc, stps_xor 8 (n ^^^ c.toNat), show (256 : Nat) = 2 ^ 8 from rfl, stps_shift 8]
    rfl

theorem mul_xor (k a b : Nat) : 2 ^ k * (a ^^^ b) = 2 ^ k * a ^^^ 2 ^ k * b := by
  apply Nat.eq_of_testBit_eq
  intro i
  rw [Nat.testBit_xor, Nat.testBit_two_pow_mul, Nat.testBit_two_pow_mul, Nat.testBit_two_pow_mul, Nat.testBit_xor]
  cases decide (i ≥ k) <;> simp

theorem val_set (l : List UInt8) : ∀ (j : Nat) (x : UInt8) (h : j < l.length), val (l.set j x) = val l ^^^ 2 ^ (8 * j) * (l[j].toNat ^^^ x.toNat) := by
  induction l with
  | nil => intro j x h; simp at h
  | cons c l ih =>
    intro j x h
    cases j with
    | zero =>
      simp only [List.set_cons_zero, val_cons, List.getElem_cons_zero, Nat.mul_zero, Nat.pow_zero, Nat.one_mul]
      rw [Nat.xor_assoc, Nat.xor_comm (256 * val l), Nat.xor_assoc c.toNat x.toNat, xor_cancel]
    | succ j =>
      simp only [List.set_cons_succ, val_cons, List.getElem_cons_succ]
      rw [ih j x (by simpa using h), Nat.xor_assoc]
      congr 1
      rw [show (256 : Nat) = 2 ^ 8 from rfl, mul_xor, show 8 * (j + 1) = 8 + 8 * j by omega, Nat.pow_add, Nat.mul_assoc]

/-- a turn of at most 32 bits that stand one behind the other is seen -/
theorem seen (n : Nat) (l m : List UInt8) (hl : l.length = m.length) (fr by' : Nat) (hv : val m = val l ^^^ 2 ^ fr * by') (hfr : fr ≤ 8 * l.length) (hb : by' < 2 ^ 32) (h0 : by' ≠ 0) : onl n m ≠ onl n l := by
  intro h
  rw [onl_val, onl_val, ← hl, hv, ← Nat.xor_assoc, stps_xor _ (n ^^^ val l)] at h
  generalize stps (8 * l.length) (n ^^^ val l) = z at h
  have h2 : stps (8 * l.length) (2 ^ fr * by') = 0 := by
    apply xor_inj z
    rw [h, Nat.xor_zero]
  rw [show 8 * l.length = fr + (8 * l.length - fr) by omega, stps_add, stps_shift] at h2
  exact h0 (stps_eq_zero _ hb h2)

end Crc

end Go.Proofs.Ytmibbklafogbkaa
