/- Plain words of 32 bits; the digest as a function of bytes. -/
import Derived.Test.YtligpachgcmkcaaEng25
set_option linter.unusedSimpArgs false
set_option linter.unusedVariables false
namespace Go.Proofs.Ytligpachgcmkcaa
open Go.RowKit Go.Shelf

/-! ### words -/
def wr (i : Int) : Int := IntKind.u32.wrap i
theorem wr_mod (i : Int) : wr i = i % 4294967296 := by simp [wr, IntKind.wrap, IntKind.bits, IntKind.signed]
theorem wr_in {i : Int} (h1 : 0 ≤ i) (h2 : i ≤ 4294967295) : wr i = i := by rw [wr_mod]; omega
theorem wr_range (i : Int) : 0 ≤ wr i ∧ wr i ≤ 4294967295 := by rw [wr_mod]; omega
theorem wr_bv (v : BitVec 32) : IntKind.u32.wrap (v.toNat : Int) = v.toNat := by
  have := v.isLt
  exact wr_in (i := (v.toNat : Int)) (by omega) (by omega)
theorem ofInt_bv (v : BitVec 32) : BitVec.ofInt 32 (v.toNat : Int) = v := by simp
theorem xorI_nat (a b : Int) : xorI .u32 a b = (BitVec.ofInt 32 a ^^^ BitVec.ofInt 32 b).toNat := wr_bv (BitVec.ofInt 32 a ^^^ BitVec.ofInt 32 b)
theorem xorI_ofInt (a b : Int) : BitVec.ofInt 32 (xorI .u32 a b) = BitVec.ofInt 32 a ^^^ BitVec.ofInt 32 b := by rw [xorI_nat]; exact ofInt_bv _
theorem andI_nat (a b : Int) : andI .u32 a b = (BitVec.ofInt 32 a &&& BitVec.ofInt 32 b).toNat := wr_bv (BitVec.ofInt 32 a &&& BitVec.ofInt 32 b)
theorem andI_ofInt (a b : Int) : BitVec.ofInt 32 (andI .u32 a b) = BitVec.ofInt 32 a &&& BitVec.ofInt 32 b := by rw [andI_nat]; exact ofInt_bv _
theorem orI_nat (a b : Int) : orI .u32 a b = (BitVec.ofInt 32 a ||| BitVec.ofInt 32 b).toNat := wr_bv (BitVec.ofInt 32 a ||| BitVec.ofInt 32 b)
theorem orI_ofInt (a b : Int) : BitVec.ofInt 32 (orI .u32 a b) = BitVec.ofInt 32 a ||| BitVec.ofInt 32 b := by rw [orI_nat]; exact ofInt_bv _
theorem xorI_range (a b : Int) : 0 ≤ xorI .u32 a b ∧ xorI .u32 a b ≤ 4294967295 := by
  rw [xorI_nat]; have := (BitVec.ofInt 32 a ^^^ BitVec.ofInt 32 b).isLt; omega
theorem orI_range (a b : Int) : 0 ≤ orI .u32 a b ∧ orI .u32 a b ≤ 4294967295 := by
  rw [orI_nat]; have := (BitVec.ofInt 32 a ||| BitVec.ofInt 32 b).isLt; omega
theorem orI_comm (a b : Int) : orI .u32 a b = orI .u32 b a := by rw [orI_nat, orI_nat, BitVec.or_comm]
def rotr (x p q : Int) : Int := orI .u32 (wr (x * q)) (x / p)
def turned (x p1 q1 p2 q2 p3 q3 : Int) : Int := xorI .u32 (xorI .u32 (rotr x p1 q1) (rotr x p2 q2)) (rotr x p3 q3)
def chI (a b c : Int) : Int := xorI .u32 (andI .u32 a b) (andI .u32 (xorI .u32 4294967295 a) c)
def majI (a b c : Int) : Int := xorI .u32 (xorI .u32 (andI .u32 a b) (andI .u32 a c)) (andI .u32 b c)
theorem bv_ch (a b c : BitVec 32) : (a &&& b) ^^^ ((BitVec.ofInt 32 4294967295 ^^^ a) &&& c) = (a &&& b) ||| ((a ^^^ BitVec.ofInt 32 4294967295) &&& c) := by
  have h1 : BitVec.ofInt 32 4294967295 = BitVec.allOnes 32 := by decide
  rw [h1]
  apply BitVec.eq_of_getLsbD_eq
  intro i hi
  simp only [BitVec.getLsbD_xor, BitVec.getLsbD_and, BitVec.getLsbD_or, BitVec.getLsbD_allOnes, hi, decide_true]
  cases a.getLsbD i <;> cases b.getLsbD i <;> cases c.getLsbD i <;> rfl
theorem bv_maj (a b c : BitVec 32) : (a &&& b) ^^^ (a &&& c) ^^^ (b &&& c) = (a &&& b) ||| (a &&& c) ||| (b &&& c) := by
  apply BitVec.eq_of_getLsbD_eq
  intro i hi
  simp only [BitVec.getLsbD_xor, BitVec.getLsbD_and, BitVec.getLsbD_or]
  cases a.getLsbD i <;> cases b.getLsbD i <;> cases c.getLsbD i <;> rfl
theorem ch_eq (a b c : Int) : orI .u32 (andI .u32 a b) (andI .u32 (xorI .u32 a 4294967295) c) = chI a b c := by
  unfold chI
  rw [orI_nat, xorI_nat (andI .u32 a b)]
  simp only [andI_ofInt, xorI_ofInt]
  rw [bv_ch]
theorem maj_eq (a b c : Int) : orI .u32 (orI .u32 (andI .u32 a b) (andI .u32 a c)) (andI .u32 b c) = majI a b c := by
  unfold majI
  rw [orI_nat, xorI_nat]
  simp only [andI_ofInt, xorI_ofInt, orI_ofInt]
  rw [bv_maj]
/-- Four bytes, the highest first. -/
def wordI (a b c d : Int) : Int := a * 16777216 + b * 65536 + c * 256 + d
theorem or_nat (a b : Nat) (i : Nat) (h : b < 2 ^ i) (h2 : 2 ^ i * a + b < 4294967296) : (BitVec.ofNat 32 (2 ^ i * a) ||| BitVec.ofNat 32 b) = BitVec.ofNat 32 (2 ^ i * a + b) := by
  apply BitVec.eq_of_toNat_eq
  have h3 : 2 ^ i * a < 4294967296 := by omega
  have h4 : b < 4294967296 := by
    have : 0 ≤ 2 ^ i * a := Nat.zero_le _
    omega
  rw [BitVec.toNat_or, BitVec.toNat_ofNat, BitVec.toNat_ofNat, BitVec.toNat_ofNat, Nat.mod_eq_of_lt h3, Nat.mod_eq_of_lt h4, Nat.mod_eq_of_lt h2, Nat.two_pow_add_eq_or_of_lt h]
theorem orI_add {x y : Int} (a b i : Nat) (hx : x = (2 ^ i * a : Nat)) (hy : y = b) (h : b < 2 ^ i) (h2 : 2 ^ i * a + b < 4294967296) : orI .u32 x y = x + y := by
  subst hx; subst hy
  rw [orI_nat, BitVec.ofInt_natCast, BitVec.ofInt_natCast, or_nat a b i h h2, BitVec.toNat_ofNat, Nat.mod_eq_of_lt h2]
  omega
theorem word_or {a b c d : Int} (ha : 0 ≤ a ∧ a ≤ 255) (hb : 0 ≤ b ∧ b ≤ 255) (hc : 0 ≤ c ∧ c ≤ 255) (hd : 0 ≤ d ∧ d ≤ 255) : orI .u32 (orI .u32 (orI .u32 (wr (a * 16777216)) (wr (b * 65536))) (wr (c * 256))) d = wordI a b c d := by
  rw [wr_in (i := a * 16777216) (by omega) (by omega), wr_in (i := b * 65536) (by omega) (by omega), wr_in (i := c * 256) (by omega) (by omega)]
  have h1 : orI .u32 (a * 16777216) (b * 65536) = a * 16777216 + b * 65536 := orI_add (a.toNat) (b.toNat * 65536) 24 (by omega) (by omega) (by omega) (by omega)
  have h2 : orI .u32 (a * 16777216 + b * 65536) (c * 256) = a * 16777216 + b * 65536 + c * 256 := orI_add (a.toNat * 256 + b.toNat) (c.toNat * 256) 16 (by omega) (by omega) (by omega) (by omega)
  have h3 : orI .u32 (a * 16777216 + b * 65536 + c * 256) d = a * 16777216 + b * 65536 + c * 256 + d := orI_add (a.toNat * 65536 + b.toNat * 256 + c.toNat) d.toNat 8 (by omega) (by omega) (by omega) (by omega)
  rw [h1, h2, h3]
  rfl
/-! ### the rounds -/
structure H8 where
  a : Int
  b : Int
  c : Int
  d : Int
  e : Int
  f : Int
  g : Int
  h : Int
def H8.l (s : H8) : List Int := [s.a, s.b, s.c, s.d, s.e, s.f, s.g, s.h]
def u32s (l : List Int) : List Value := l.map (.int .u32)
def u8s (l : List Int) : List Value := l.map (.int .u8)
def H8.v (s : H8) : List Value := u32s s.l
def oneI (s : H8) (k w : Int) : Int := wr (wr (wr (wr (s.h + turned s.e 64 67108864 2048 2097152 33554432 128) + chI s.e s.f s.g) + k) + w)
def twoI (s : H8) : Int := wr (turned s.a 4 1073741824 8192 524288 4194304 1024 + majI s.a s.b s.c)
def stepI (s : H8) (k w : Int) : H8 := ⟨wr (oneI s k w + twoI s), s.a, s.b, s.c, wr (s.d + oneI s k w), s.e, s.f, s.g⟩
def addH (s t : H8) : H8 := ⟨wr (s.a + t.a), wr (s.b + t.b), wr (s.c + t.c), wr (s.d + t.d), wr (s.e + t.e), wr (s.f + t.f), wr (s.g + t.g), wr (s.h + t.h)⟩
/-- The words of a block's bytes b. -/
def nextI (b l : List Int) : Int :=
  if l.length < 16 then wordI (b.getD (4 * l.length) 0) (b.getD (4 * l.length + 1) 0) (b.getD (4 * l.length + 2) 0) (b.getD (4 * l.length + 3) 0)
  else wr (wr (wr (l.getD (l.length - 16) 0 + xorI .u32 (xorI .u32 (rotr (l.getD (l.length - 15) 0) 128 33554432) (rotr (l.getD (l.length - 15) 0) 262144 16384)) (l.getD (l.length - 15) 0 / 8)) + l.getD (l.length - 7) 0)
    + xorI .u32 (xorI .u32 (rotr (l.getD (l.length - 2) 0) 131072 32768) (rotr (l.getD (l.length - 2) 0) 524288 8192)) (l.getD (l.length - 2) 0 / 1024))
def schedI (b : List Int) : Nat → List Int
  | 0 => []
  | i + 1 => schedI b i ++ [nextI b (schedI b i)]
theorem sched_len (b : List Int) (i : Nat) : (schedI b i).length = i := by
  induction i with
  | zero => rfl
  | succ i ih => simp [schedI, ih]
def roundsI (K W : List Int) (s : H8) : Nat → H8
  | 0 => s
  | i + 1 => stepI (roundsI K W s i) (K.getD i 0) (W.getD i 0)
def mixI (K b : List Int) (s : H8) : H8 := addH s (roundsI K (schedI b 64) s 64)
/-- All whole blocks. -/
def allI (K : List Int) : Nat → List Int → H8 → H8
  | 0, _, s => s
  | n + 1, b, s => allI K n (b.drop 64) (mixI K (b.take 64) s)
def h0I : H8 := ⟨1779033703, 3144134277, 1013904242, 2773480762, 1359893119, 2600822924, 528734635, 1541459225⟩
def kI : List Int := [1116352408, 1899447441, 3049323471, 3921009573, 961987163, 1508970993, 2453635748, 2870763221, 3624381080, 310598401, 607225278, 1426881987, 1925078388, 2162078206, 2614888103, 3248222580, 3835390401, 4022224774, 264347078, 604807628, 770255983, 1249150122, 1555081692, 1996064986, 2554220882, 2821834349, 2952996808, 3210313671, 3336571891, 3584528711, 113926993, 338241895, 666307205, 773529912, 1294757372, 1396182291, 1695183700, 1986661051, 2177026350, 2456956037, 2730485921, 2820302411, 3259730800, 3345764771, 3516065817, 3600352804, 4094571909, 275423344, 430227734, 506948616, 659060556, 883997877, 958139571, 1322822218, 1537002063, 1747873779, 1955562222, 2024104815, 2227730452, 2361852424, 2428436474, 2756734187, 3204031479, 3329325298]
def lenI (n : Int) : List Int := [n / 72057594037927936 % 256, n / 281474976710656 % 256, n / 1099511627776 % 256, n / 4294967296 % 256, n / 16777216 % 256, n / 65536 % 256, n / 256 % 256, n % 256]
/-- What stands behind n bytes: a sign, zeros, the length. -/
def padI (n : Nat) : List Int := 128 :: (List.replicate ((119 - n % 64) % 64) 0 ++ lenI (8 * n))
def outI (s : H8) : List Int := s.l.flatMap fun x => [x / 16777216 % 256, x / 65536 % 256, x / 256 % 256, x % 256]
def shaI (b : List Int) : List Int := outI (allI kI ((b ++ padI b.length).length / 64) (b ++ padI b.length) h0I)
theorem out_len (s : H8) : (outI s).length = 32 := by simp [outI, H8.l]
theorem sha_len (b : List Int) : (shaI b).length = 32 := out_len _
theorem kI_len : kI.length = 64 := rfl

theorem allI_add (K : List Int) (j : Nat) : ∀ (i : Nat) (b : List Int) (s : H8), allI K (i + j) b s = allI K j (b.drop (64 * i)) (allI K i b s)
  | 0, b, s => by simp [allI]
  | i + 1, b, s => by
    rw [show i + 1 + j = (i + j) + 1 by omega, allI, allI_add K j i, allI, List.drop_drop, show 64 + 64 * i = 64 * (i + 1) by omega]
theorem allI_app (K : List Int) : ∀ (i : Nat) (b c : List Int) (s : H8), 64 * i ≤ b.length → allI K i (b ++ c) s = allI K i b s
  | 0, _, _, _, _ => rfl
  | i + 1, b, c, s, h => by
    rw [allI, allI, List.drop_append_of_le_length (by omega), List.take_append_of_le_length (by omega)]
    exact allI_app K i _ c _ (by rw [List.length_drop]; omega)
/-- The words and what is left, once bytes b have come. -/
def wordsI (b : List Int) : H8 := allI kI (b.length / 64) b h0I
def leftI (b : List Int) : List Int := b.drop (64 * (b.length / 64))
theorem left_len (b : List Int) : (leftI b).length = b.length % 64 := by unfold leftI; rw [List.length_drop]; omega
theorem feed (b x : List Int) : allI kI ((leftI b ++ x).length / 64) (leftI b ++ x) (wordsI b) = wordsI (b ++ x) ∧ (leftI b ++ x).drop (64 * ((leftI b ++ x).length / 64)) = leftI (b ++ x) := by
  have hl := left_len b
  have hd : leftI b ++ x = (b ++ x).drop (64 * (b.length / 64)) := by
    unfold leftI; rw [List.drop_append_of_le_length (by omega)]
  have hn : (b ++ x).length / 64 = b.length / 64 + (leftI b ++ x).length / 64 := by
    rw [List.length_append, List.length_append, hl]; omega
  constructor
  · unfold wordsI
    rw [hn, allI_add, ← hd, allI_app kI _ b x _ (by omega)]
  · conv => rhs; unfold leftI
    rw [hn, Nat.mul_add, ← List.drop_drop, ← hd]
theorem sha_words (b : List Int) : shaI b = outI (wordsI (b ++ padI b.length)) := rfl
end Go.Proofs.Ytligpachgcmkcaa
