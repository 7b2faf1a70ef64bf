/- The digest in plain Lean: no program in sight. -/
namespace Go.Proofs.Ytheilikelcgdmaa.Sha

abbrev W := BitVec 32
def rr (x : W) (n : Nat) : W := x >>> n ||| x <<< (32 - n)
def K : List W := [
  0x428a2f98#32, 0x71374491#32, 0xb5c0fbcf#32, 0xe9b5dba5#32, 0x3956c25b#32, 0x59f111f1#32, 0x923f82a4#32, 0xab1c5ed5#32,
  0xd807aa98#32, 0x12835b01#32, 0x243185be#32, 0x550c7dc3#32, 0x72be5d74#32, 0x80deb1fe#32, 0x9bdc06a7#32, 0xc19bf174#32,
  0xe49b69c1#32, 0xefbe4786#32, 0x0fc19dc6#32, 0x240ca1cc#32, 0x2de92c6f#32, 0x4a7484aa#32, 0x5cb0a9dc#32, 0x76f988da#32,
  0x983e5152#32, 0xa831c66d#32, 0xb00327c8#32, 0xbf597fc7#32, 0xc6e00bf3#32, 0xd5a79147#32, 0x06ca6351#32, 0x14292967#32,
  0x27b70a85#32, 0x2e1b2138#32, 0x4d2c6dfc#32, 0x53380d13#32, 0x650a7354#32, 0x766a0abb#32, 0x81c2c92e#32, 0x92722c85#32,
  0xa2bfe8a1#32, 0xa81a664b#32, 0xc24b8b70#32, 0xc76c51a3#32, 0xd192e819#32, 0xd6990624#32, 0xf40e3585#32, 0x106aa070#32,
  0x19a4c116#32, 0x1e376c08#32, 0x2748774c#32, 0x34b0bcb5#32, 0x391c0cb3#32, 0x4ed8aa4a#32, 0x5b9cca4f#32, 0x682e6ff3#32,
  0x748f82ee#32, 0x78a5636f#32, 0x84c87814#32, 0x8cc70208#32, 0x90befffa#32, 0xa4506ceb#32, 0xbef9a3f7#32, 0xc67178f2#32]
def g0 (x : W) : W := (rr x 7 ^^^ rr x 18) ^^^ (x >>> 3)
def g1 (y : W) : W := (rr y 17 ^^^ rr y 19) ^^^ (y >>> 10)
/-- Four bytes as a word. -/
def wd (a b c d : UInt8) : W := BitVec.ofNat 32 (((a.toNat * 256 + b.toNat) * 256 + c.toNat) * 256 + d.toNat)
def w16 (b : List UInt8) : List W := (List.range 16).map fun i => wd (b.getD (4 * i) 0) (b.getD (4 * i + 1) 0) (b.getD (4 * i + 2) 0) (b.getD (4 * i + 3) 0)
/-- One word more. -/
def ext1 (w : List W) : List W := w ++ [((g1 (w.getD (w.length - 2) 0) + w.getD (w.length - 7) 0) + g0 (w.getD (w.length - 15) 0)) + w.getD (w.length - 16) 0]
def ext : Nat → List W → List W
  | 0, w => w
  | n + 1, w => ext1 (ext n w)
def words (b : List UInt8) : List W := ext 48 (w16 b)
structure St where
  a : W
  b : W
  c : W
  d : W
  e : W
  f : W
  g : W
  h : W
def one (k w : W) (s : St) : W := (((s.h + ((rr s.e 6 ^^^ rr s.e 11) ^^^ rr s.e 25)) + ((s.e &&& s.f) ^^^ (~~~s.e &&& s.g))) + k) + w
def two (s : St) : W := ((rr s.a 2 ^^^ rr s.a 13) ^^^ rr s.a 22) + (((s.a &&& s.b) ^^^ (s.a &&& s.c)) ^^^ (s.b &&& s.c))
def rnd (k w : W) (s : St) : St := ⟨one k w s + two s, s.a, s.b, s.c, s.d + one k w s, s.e, s.f, s.g⟩
def rnds (b : List UInt8) : Nat → St → St
  | 0, s => s
  | t + 1, s => rnd (K.getD t 0) ((words b).getD t 0) (rnds b t s)
def St.add (x y : St) : St := ⟨x.a + y.a, x.b + y.b, x.c + y.c, x.d + y.d, x.e + y.e, x.f + y.f, x.g + y.g, x.h + y.h⟩
def block (s : St) (b : List UInt8) : St := s.add (rnds b 64 s)
def st0 : St := ⟨0x6a09e667#32, 0xbb67ae85#32, 0x3c6ef372#32, 0xa54ff53a#32, 0x510e527f#32, 0x9b05688c#32, 0x1f83d9ab#32, 0x5be0cd19#32⟩
/-- Behind i blocks of bytes. -/
def run (l : List UInt8) : Nat → St
  | 0 => st0
  | i + 1 => block (run l i) ((l.drop (64 * i)).take 64)
def b4 (x : W) : List UInt8 := [UInt8.ofNat (x.toNat / 16777216), UInt8.ofNat (x.toNat / 65536), UInt8.ofNat (x.toNat / 256), UInt8.ofNat x.toNat]
def out (s : St) : List UInt8 := b4 s.a ++ (b4 s.b ++ (b4 s.c ++ (b4 s.d ++ (b4 s.e ++ (b4 s.f ++ (b4 s.g ++ b4 s.h))))))
def noughts (n : Nat) : Nat := (64 - (n + 9) % 64) % 64
def be8 (m : Nat) : List UInt8 := [UInt8.ofNat (m / 72057594037927936), UInt8.ofNat (m / 281474976710656), UInt8.ofNat (m / 1099511627776), UInt8.ofNat (m / 4294967296), UInt8.ofNat (m / 16777216), UInt8.ofNat (m / 65536), UInt8.ofNat (m / 256), UInt8.ofNat m]
def pad (n : Nat) : List UInt8 := 128 :: (List.replicate (noughts n) 0 ++ be8 (n * 8))
def full (l : List UInt8) : List UInt8 := l ++ pad l.length
def sum (l : List UInt8) : List UInt8 := out (run (full l) ((full l).length / 64))

theorem out_len (s : St) : (out s).length = 32 := rfl
theorem sum_len (l : List UInt8) : (sum l).length = 32 := rfl
theorem pad_len (n : Nat) : (pad n).length = noughts n + 9 := by simp [pad, be8]
theorem full_len (l : List UInt8) : (full l).length = l.length + noughts l.length + 9 := by simp [full, pad_len]; omega
theorem full_whole (l : List UInt8) : (full l).length % 64 = 0 := by rw [full_len]; unfold noughts; omega
theorem noughts_lt (n : Nat) : noughts n < 64 := by unfold noughts; omega
theorem ext_len (n : Nat) (w : List W) : (ext n w).length = w.length + n := by
  induction n with
  | zero => rfl
  | succ n ih => simp [ext, ext1, ih]; omega
theorem w16_len (b : List UInt8) : (w16 b).length = 16 := rfl
theorem words_len (b : List UInt8) : (words b).length = 64 := by unfold words; rw [ext_len]; rfl
theorem ext_get {n m : Nat} (w : List W) (h : n ≤ m) {j : Nat} (hj : j < w.length + n) : (ext m w).getD j 0 = (ext n w).getD j 0 := by
  induction m with
  | zero => obtain rfl : n = 0 := by omega
            rfl
  | succ m ih =>
    by_cases e : n = m + 1
    · subst e; rfl
    · rw [← ih (by omega)]
      simp only [ext, ext1, List.getD_eq_getElem?_getD]
      rw [List.getElem?_append_left (by rw [ext_len]; omega)]
theorem words_ext (b : List UInt8) {n j : Nat} (hn : n ≤ 48) (hj : j < 16 + n) : (words b).getD j 0 = (ext n (w16 b)).getD j 0 := ext_get (w16 b) hn (by rw [w16_len]; exact hj)
theorem words_first (b : List UInt8) {i : Nat} (hi : i < 16) : (words b).getD i 0 = wd (b.getD (4 * i) 0) (b.getD (4 * i + 1) 0) (b.getD (4 * i + 2) 0) (b.getD (4 * i + 3) 0) := by
  rw [words_ext b (n := 0) (by omega) (by omega)]
  simp only [ext, w16, List.getD_eq_getElem?_getD, List.getElem?_map, List.getElem?_range hi]
  rfl
theorem words_next (b : List UInt8) {t : Nat} (h : 16 ≤ t) (ht : t < 64) :
    (words b).getD t 0 = ((g1 ((words b).getD (t - 2) 0) + (words b).getD (t - 7) 0) + g0 ((words b).getD (t - 15) 0)) + (words b).getD (t - 16) 0 := by
  have hl : (ext (t - 16) (w16 b)).length = t := by rw [ext_len, w16_len]; omega
  rw [words_ext b (n := t - 16 + 1) (by omega) (by omega), words_ext b (n := t - 16) (j := t - 2) (by omega) (by omega), words_ext b (n := t - 16) (j := t - 7) (by omega) (by omega), words_ext b (n := t - 16) (j := t - 15) (by omega) (by omega), words_ext b (n := t - 16) (j := t - 16) (by omega) (by omega)]
  simp only [ext, ext1, hl]
  rw [List.getD_eq_getElem?_getD, List.getElem?_append_right (by omega), hl, Nat.sub_self]
  rfl
theorem sum_nothing : sum [] = [0xe3, 0xb0, 0xc4, 0x42, 0x98, 0xfc, 0x1c, 0x14, 0x9a, 0xfb, 0xf4, 0xc8, 0x99, 0x6f, 0xb9, 0x24, 0x27, 0xae, 0x41, 0xe4, 0x64, 0x9b, 0x93, 0x4c, 0xa4, 0x95, 0x99, 0x1b, 0x78, 0x52, 0xb8, 0x55] := by decide +kernel
theorem sum_abc : sum [97, 98, 99] = [0xba, 0x78, 0x16, 0xbf, 0x8f, 0x01, 0xcf, 0xea, 0x41, 0x41, 0x40, 0xde, 0x5d, 0xae, 0x22, 0x23, 0xb0, 0x03, 0x61, 0xa3, 0x96, 0x17, 0x7a, 0x9c, 0xb4, 0x10, 0xff, 0x61, 0xf2, 0x00, 0x15, 0xad] := by decide +kernel
end Go.Proofs.Ytheilikelcgdmaa.Sha
