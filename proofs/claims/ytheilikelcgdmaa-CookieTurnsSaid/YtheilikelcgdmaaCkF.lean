/- Cookies: what is kept in bytes, in plain Lean. -/
import Derived.Test.YtheilikelcgdmaaHmF
namespace Go.Proofs.Ytheilikelcgdmaa
namespace Ck
/-- A number in so many bytes, the highest first. -/
def num (n : Nat) : Nat → List UInt8
  | 0 => []
  | k + 1 => UInt8.ofNat (n / 256 ^ k) :: num n k
def val (l : List UInt8) : Nat := l.foldl (fun n c => n * 256 + c.toNat) 0
theorem num_len (n : Nat) : ∀ k, (num n k).length = k
  | 0 => rfl
  | k + 1 => by rw [num, List.length_cons, num_len n k]
theorem val_snoc (l : List UInt8) (c : UInt8) : val (l ++ [c]) = val l * 256 + c.toNat := by simp [val]
theorem val_foldl (l : List UInt8) : ∀ a : Nat, l.foldl (fun n c => n * 256 + c.toNat) a = a * 256 ^ l.length + val l := by
  induction l with
  | nil => intro a; simp [val]
  | cons c l ih =>
    intro a
    have h1 := ih (a * 256 + c.toNat)
    have h2 := ih (0 * 256 + c.toNat)
    simp only [List.foldl_cons, val, List.length_cons, Nat.pow_succ]
    rw [h1, h2]
    simp only [Nat.add_mul, Nat.zero_mul, Nat.zero_add, Nat.mul_assoc, Nat.add_assoc, Nat.mul_comm 256]
theorem val_cons (c : UInt8) (l : List UInt8) : val (c :: l) = c.toNat * 256 ^ l.length + val l := by
  have := val_foldl l (0 * 256 + c.toNat)
  simp only [Nat.zero_mul, Nat.zero_add] at this
  rw [← this]
  simp [val]
theorem val_lt : ∀ l : List UInt8, val l < 256 ^ l.length
  | [] => by simp [val]
  | c :: l => by
    have h1 := val_lt l
    have h2 : c.toNat < 256 := by have := c.toBitVec.isLt; simpa using this
    rw [val_cons, List.length_cons, Nat.pow_succ]
    have h3 : c.toNat * 256 ^ l.length + 256 ^ l.length ≤ 256 ^ l.length * 256 := by
      have : (c.toNat + 1) * 256 ^ l.length ≤ 256 * 256 ^ l.length := Nat.mul_le_mul_right _ (by omega)
      rw [Nat.add_mul, Nat.one_mul] at this
      rw [Nat.mul_comm (256 ^ l.length) 256]
      exact this
    omega
theorem num_mod (n : Nat) : ∀ k m, k ≤ m → num (n % 256 ^ m) k = num n k
  | 0, m, _ => rfl
  | k + 1, m, h => by
    rw [num, num, num_mod n k m (by omega)]
    congr 1
    apply UInt8.toNat_inj.1
    simp only [UInt8.toNat_ofNat']
    have e : 256 ^ m = 256 ^ k * 256 ^ (m - k) := by rw [← Nat.pow_add]; congr 1; omega
    have e2 : 256 ^ (m - k) = 256 * 256 ^ (m - k - 1) := by rw [Nat.mul_comm, ← Nat.pow_succ]; congr 1; omega
    rw [e, Nat.mod_mul_right_div_self, e2]
    show n / 256 ^ k % (256 * 256 ^ (m - k - 1)) % 2 ^ 8 = n / 256 ^ k % 2 ^ 8
    rw [show (2 : Nat) ^ 8 = 256 from rfl]
    exact Nat.mod_mul_right_mod _ _ _
theorem num_val : ∀ l : List UInt8, num (val l) l.length = l
  | [] => rfl
  | c :: l => by
    have h1 := val_lt l
    have hp : 0 < 256 ^ l.length := Nat.pow_pos (by omega)
    have h2 : c.toNat < 256 := by have := c.toBitVec.isLt; simpa using this
    rw [List.length_cons, num, val_cons]
    have hd : (c.toNat * 256 ^ l.length + val l) / 256 ^ l.length = c.toNat := by
      rw [Nat.mul_comm, Nat.mul_add_div hp, Nat.div_eq_of_lt h1]; rfl
    rw [hd]
    have hn : num (c.toNat * 256 ^ l.length + val l) l.length = num (val l) l.length := by
      have := num_mod (c.toNat * 256 ^ l.length + val l) l.length l.length (Nat.le_refl _)
      rw [← this, Nat.mul_comm, Nat.mul_add_mod, Nat.mod_eq_of_lt h1]
    rw [hn, num_val l]
    congr 1
    exact UInt8.ofNat_toNat
theorem val_num (n : Nat) : ∀ k, val (num n k) = n % 256 ^ k
  | 0 => by simp [num, val, Nat.mod_one]
  | k + 1 => by
    rw [num, val_cons, num_len, val_num n k, UInt8.toNat_ofNat', show (2 : Nat) ^ 8 = 256 from rfl, show 256 ^ (k + 1) = 256 ^ k * 256 from rfl, Nat.mod_mul, Nat.mul_comm (256 ^ k), Nat.add_comm]
theorem val_num_lt {n k : Nat} (h : n < 256 ^ k) : val (num n k) = n := by rw [val_num, Nat.mod_eq_of_lt h]
/-- What is kept. -/
structure St where
  ot : Nat
  pt : Nat
  os : Nat
  ps : Nat
  to_ : Nat
  tp : Nat
  wi : Nat
  ou : Nat
  ins : Nat
  op : Nat
  pp : Nat
  peer : List UInt8
  made : Int
  life : Int
/-- It is one of the program's. -/
structure St.Ok (s : St) : Prop where
  h1 : s.ot < 4294967296
  h2 : s.pt < 4294967296
  h3 : s.os < 4294967296
  h4 : s.ps < 4294967296
  h5 : s.to_ < 4294967296
  h6 : s.tp < 4294967296
  h7 : s.wi < 4294967296
  h8 : s.ou < 65536
  h9 : s.ins < 65536
  h10 : s.op < 65536
  h11 : s.pp < 65536
def St.zero : St := ⟨0, 0, 0, 0, 0, 0, 0, 0, 0, 0, 0, [], 0, 0⟩
def right (s : St) : Bool := (s.peer.length == 4 || s.peer.length == 16) && (decide (0 ≤ s.made) && decide (s.made ≤ 1099511627776) && decide (0 ≤ s.life) && decide (s.life ≤ 1099511627776)) && (s.ot != 0 && s.pt != 0 && s.ou != 0 && s.ins != 0 && s.op != 0 && s.pp != 0)
def head (s : St) : List UInt8 := num s.ot 4 ++ (num s.pt 4 ++ (num s.os 4 ++ (num s.ps 4 ++ (num s.to_ 4 ++ (num s.tp 4 ++ (num s.wi 4 ++ (num s.ou 2 ++ (num s.ins 2 ++ (num s.op 2 ++ (num s.pp 2 ++ (num s.made.toNat 8 ++ (num s.life.toNat 8 ++ num s.peer.length 1))))))))))))
def bytes (s : St) : List UInt8 := head s ++ s.peer
theorem head_len (s : St) : (head s).length = 53 := by simp [head, num_len]
theorem bytes_len (s : St) : (bytes s).length = 53 + s.peer.length := by rw [bytes, List.length_append, head_len]
/-- Some of a text. -/
def cut (b : List UInt8) (i j : Nat) : List UInt8 := (b.take j).drop i
theorem cut_len {b : List UInt8} {i j : Nat} (h : j ≤ b.length) : (cut b i j).length = j - i := by simp [cut, Nat.min_eq_left h]
theorem cut_fst {A B : List UInt8} {n : Nat} (h : A.length = n) : cut (A ++ B) 0 n = A := by subst h; simp [cut]
theorem cut_snd {A B : List UInt8} {n i j : Nat} (h : A.length = n) (hi : n ≤ i) (hj : i ≤ j) : cut (A ++ B) i j = cut B (i - n) (j - n) := by
  subst h
  unfold cut
  rw [List.take_append, List.drop_append, List.take_of_length_le (by omega), List.drop_of_length_le (by omega)]
  simp
/-- A number of 64 bits with a sign. -/
def w64 (n : Nat) : Int := ((n : Int) + 9223372036854775808) % 18446744073709551616 - 9223372036854775808
def parse (b : List UInt8) : St := ⟨val (cut b 0 4), val (cut b 4 8), val (cut b 8 12), val (cut b 12 16), val (cut b 16 20), val (cut b 20 24), val (cut b 24 28), val (cut b 28 30), val (cut b 30 32), val (cut b 32 34), val (cut b 34 36), b.drop 53, w64 (val (cut b 36 44)), w64 (val (cut b 44 52))⟩
theorem w64_small {n : Nat} (h : n < 9223372036854775808) : w64 n = n := by unfold w64; omega
theorem w64_back {n : Nat} (h : n < 18446744073709551616) (h0 : 0 ≤ w64 n) : (w64 n).toNat = n := by unfold w64 at h0 ⊢; omega
theorem right_iff {s : St} : right s = true ↔ (s.peer.length = 4 ∨ s.peer.length = 16) ∧ (0 ≤ s.made ∧ s.made ≤ 1099511627776 ∧ 0 ≤ s.life ∧ s.life ≤ 1099511627776) ∧ s.ot ≠ 0 ∧ s.pt ≠ 0 ∧ s.ou ≠ 0 ∧ s.ins ≠ 0 ∧ s.op ≠ 0 ∧ s.pp ≠ 0 := by
  simp [right, and_assoc]
theorem cut_cut (b : List UInt8) {i j : Nat} (h : i ≤ j) : b.drop i = cut b i j ++ b.drop j := by
  unfold cut
  conv => lhs; rw [← List.take_append_drop j b]
  rw [List.drop_append]
  by_cases hj : j ≤ b.length
  · rw [List.length_take, Nat.min_eq_left hj, show i - j = 0 from by omega]; rfl
  · rw [List.drop_of_length_le (l := b) (i := j) (by omega)]; simp
theorem num_cut {b : List UInt8} {i j : Nat} (k : Nat) (h : j ≤ b.length) (hk : j - i = k) : num (val (cut b i j)) k = cut b i j := by
  have := num_val (cut b i j)
  rwa [cut_len h, hk] at this
/-- What is read and right is written as it was, but for the byte that tells the length. -/
theorem bytes_parse {b : List UInt8} (hb : 53 ≤ b.length) (hr : right (parse b) = true) : bytes (parse b) = b ↔ ((val (cut b 52 53) : Nat)) = (b.drop 53).length := by
  obtain ⟨hp, ⟨hm0, _, hl0, _⟩, _⟩ := right_iff.1 hr
  have hm : (parse b).made.toNat = val (cut b 36 44) := w64_back (by have := val_lt (cut b 36 44); rw [cut_len (by omega)] at this; omega) hm0
  have hl : (parse b).life.toNat = val (cut b 44 52) := w64_back (by have := val_lt (cut b 44 52); rw [cut_len (by omega)] at this; omega) hl0
  have hp' : (b.drop 53).length = 4 ∨ (b.drop 53).length = 16 := hp
  have e : bytes (parse b) = cut b 0 4 ++ (cut b 4 8 ++ (cut b 8 12 ++ (cut b 12 16 ++ (cut b 16 20 ++ (cut b 20 24 ++ (cut b 24 28 ++ (cut b 28 30 ++ (cut b 30 32 ++ (cut b 32 34 ++ (cut b 34 36 ++ (cut b 36 44 ++ (cut b 44 52 ++ (num (b.drop 53).length 1 ++ b.drop 53))))))))))))) := by
    simp only [bytes, head, hm, hl]
    simp only [parse]
    rw [num_cut 4 (by omega) rfl, num_cut 4 (by omega) rfl, num_cut 4 (by omega) rfl, num_cut 4 (by omega) rfl, num_cut 4 (by omega) rfl, num_cut 4 (by omega) rfl, num_cut 4 (by omega) rfl,
      num_cut 2 (by omega) rfl, num_cut 2 (by omega) rfl, num_cut 2 (by omega) rfl, num_cut 2 (by omega) rfl, num_cut 8 (by omega) rfl, num_cut 8 (by omega) rfl]
    simp only [List.append_assoc]
  have f : b = cut b 0 4 ++ (cut b 4 8 ++ (cut b 8 12 ++ (cut b 12 16 ++ (cut b 16 20 ++ (cut b 20 24 ++ (cut b 24 28 ++ (cut b 28 30 ++ (cut b 30 32 ++ (cut b 32 34 ++ (cut b 34 36 ++ (cut b 36 44 ++ (cut b 44 52 ++ (cut b 52 53 ++ b.drop 53))))))))))))) := by
    rw [← cut_cut b (by omega : 52 ≤ 53), ← cut_cut b (by omega : 44 ≤ 52), ← cut_cut b (by omega : 36 ≤ 44), ← cut_cut b (by omega : 34 ≤ 36), ← cut_cut b (by omega : 32 ≤ 34), ← cut_cut b (by omega : 30 ≤ 32), ← cut_cut b (by omega : 28 ≤ 30),
      ← cut_cut b (by omega : 24 ≤ 28), ← cut_cut b (by omega : 20 ≤ 24), ← cut_cut b (by omega : 16 ≤ 20), ← cut_cut b (by omega : 12 ≤ 16), ← cut_cut b (by omega : 8 ≤ 12), ← cut_cut b (by omega : 4 ≤ 8), ← cut_cut b (by omega : 0 ≤ 4)]
    rfl
  constructor
  · intro h
    have h2 := congrArg (fun l => cut l 52 53) h
    have h3 : cut (bytes (parse b)) 52 53 = num (b.drop 53).length 1 := by
      rw [e]
      rw [cut_snd (n := 4) (by rw [cut_len (by omega)]) (by omega) (by omega), cut_snd (n := 4) (by rw [cut_len (by omega)]) (by omega) (by omega), cut_snd (n := 4) (by rw [cut_len (by omega)]) (by omega) (by omega), cut_snd (n := 4) (by rw [cut_len (by omega)]) (by omega) (by omega),
        cut_snd (n := 4) (by rw [cut_len (by omega)]) (by omega) (by omega), cut_snd (n := 4) (by rw [cut_len (by omega)]) (by omega) (by omega), cut_snd (n := 4) (by rw [cut_len (by omega)]) (by omega) (by omega),
        cut_snd (n := 2) (by rw [cut_len (by omega)]) (by omega) (by omega), cut_snd (n := 2) (by rw [cut_len (by omega)]) (by omega) (by omega), cut_snd (n := 2) (by rw [cut_len (by omega)]) (by omega) (by omega), cut_snd (n := 2) (by rw [cut_len (by omega)]) (by omega) (by omega),
        cut_snd (n := 8) (by rw [cut_len (by omega)]) (by omega) (by omega), cut_snd (n := 8) (by rw [cut_len (by omega)]) (by omega) (by omega)]
      exact cut_fst (num_len _ _)
    rw [← h2, h3]
    exact val_num_lt (by omega)
  · intro h
    rw [e, ← h, num_cut 1 (by omega) rfl]
    exact f.symm
theorem cut_end {A B : List UInt8} {n : Nat} (h : A.length = n) : (A ++ B).drop n = B := by subst h; simp
/-- What is written is read as it was. -/
theorem parse_bytes {s : St} (hs : s.Ok) (hr : right s = true) : parse (bytes s) = s := by
  obtain ⟨hp, ⟨hm0, hm1, hl0, hl1⟩, _⟩ := right_iff.1 hr
  obtain ⟨h1, h2, h3, h4, h5, h6, h7, h8, h9, h10, h11⟩ := hs
  have e : bytes s = num s.ot 4 ++ (num s.pt 4 ++ (num s.os 4 ++ (num s.ps 4 ++ (num s.to_ 4 ++ (num s.tp 4 ++ (num s.wi 4 ++ (num s.ou 2 ++ (num s.ins 2 ++ (num s.op 2 ++ (num s.pp 2 ++ (num s.made.toNat 8 ++ (num s.life.toNat 8 ++ (num s.peer.length 1 ++ s.peer))))))))))))) := by
    simp only [bytes, head, List.append_assoc]
  have d : (bytes s).drop 53 = s.peer := cut_end (head_len s)
  unfold parse
  rw [d, e]
  have L := num_len
  rw [cut_fst (L _ 4)]
  rw [cut_snd (i := 4) (L _ 4) (by omega) (by omega), cut_fst (L _ 4)]
  rw [cut_snd (i := 8) (L _ 4) (by omega) (by omega), cut_snd (L _ 4) (by omega) (by omega), cut_fst (L _ 4)]
  rw [cut_snd (i := 12) (L _ 4) (by omega) (by omega), cut_snd (L _ 4) (by omega) (by omega), cut_snd (L _ 4) (by omega) (by omega), cut_fst (L _ 4)]
  rw [cut_snd (i := 16) (L _ 4) (by omega) (by omega), cut_snd (L _ 4) (by omega) (by omega), cut_snd (L _ 4) (by omega) (by omega), cut_snd (L _ 4) (by omega) (by omega), cut_fst (L _ 4)]
  rw [cut_snd (i := 20) (L _ 4) (by omega) (by omega), cut_snd (L _ 4) (by omega) (by omega), cut_snd (L _ 4) (by omega) (by omega), cut_snd (L _ 4) (by omega) (by omega), cut_snd (L _ 4) (by omega) (by omega), cut_fst (L _ 4)]
  rw [cut_snd (i := 24) (L _ 4) (by omega) (by omega), cut_snd (L _ 4) (by omega) (by omega), cut_snd (L _ 4) (by omega) (by omega), cut_snd (L _ 4) (by omega) (by omega), cut_snd (L _ 4) (by omega) (by omega), cut_snd (L _ 4) (by omega) (by omega), cut_fst (L _ 4)]
  have skip : ∀ (i j : Nat) (B : List UInt8), 28 ≤ i → i ≤ j → cut (num s.ot 4 ++ (num s.pt 4 ++ (num s.os 4 ++ (num s.ps 4 ++ (num s.to_ 4 ++ (num s.tp 4 ++ (num s.wi 4 ++ B))))))) i j = cut B (i - 28) (j - 28) := fun i j B hi hj => by
    rw [cut_snd (L _ 4) (by omega) (by omega), cut_snd (L _ 4) (by omega) (by omega), cut_snd (L _ 4) (by omega) (by omega), cut_snd (L _ 4) (by omega) (by omega), cut_snd (L _ 4) (by omega) (by omega), cut_snd (L _ 4) (by omega) (by omega), cut_snd (L _ 4) (by omega) (by omega)]
    congr 1 <;> omega
  rw [skip 28 _ _ (by omega) (by omega), skip 30 _ _ (by omega) (by omega), skip 32 _ _ (by omega) (by omega), skip 34 _ _ (by omega) (by omega), skip 36 _ _ (by omega) (by omega), skip 44 _ _ (by omega) (by omega)]
  simp only [Nat.reduceSub]
  rw [cut_fst (L _ 2)]
  rw [cut_snd (i := 2) (L _ 2) (by omega) (by omega), cut_fst (L _ 2)]
  rw [cut_snd (i := 4) (L _ 2) (by omega) (by omega), cut_snd (L _ 2) (by omega) (by omega), cut_fst (L _ 2)]
  rw [cut_snd (i := 6) (L _ 2) (by omega) (by omega), cut_snd (L _ 2) (by omega) (by omega), cut_snd (L _ 2) (by omega) (by omega), cut_fst (L _ 2)]
  rw [cut_snd (i := 8) (L _ 2) (by omega) (by omega), cut_snd (L _ 2) (by omega) (by omega), cut_snd (L _ 2) (by omega) (by omega), cut_snd (L _ 2) (by omega) (by omega), cut_fst (L _ 8)]
  rw [cut_snd (i := 16) (L _ 2) (by omega) (by omega), cut_snd (L _ 2) (by omega) (by omega), cut_snd (L _ 2) (by omega) (by omega), cut_snd (L _ 2) (by omega) (by omega), cut_snd (L _ 8) (by omega) (by omega), cut_fst (L _ 8)]
  rw [val_num_lt (by omega), val_num_lt (by omega), val_num_lt (by omega), val_num_lt (by omega), val_num_lt (by omega), val_num_lt (by omega), val_num_lt (by omega), val_num_lt (by omega), val_num_lt (by omega), val_num_lt (by omega), val_num_lt (by omega), val_num_lt (by omega), val_num_lt (by omega)]
  rw [w64_small (by omega), w64_small (by omega)]
  obtain ⟨⟩ := s
  simp only [St.mk.injEq, true_and]
  simp only at hm0 hl0
  omega
theorem or_low (m : Nat) (c : UInt8) : (m * 256) ||| c.toNat = m * 256 + c.toNat := by
  have h : c.toNat < 2 ^ 8 := by have := c.toBitVec.isLt; simpa using this
  have := Nat.shiftLeft_add_eq_or_of_lt h m
  rw [Nat.shiftLeft_eq] at this
  exact this.symm
/-- Its cells. -/
abbrev St.cs (s : St) : List Value := [.int .u32 (s.ot : Nat), .int .u32 (s.pt : Nat), .int .u32 (s.os : Nat), .int .u32 (s.ps : Nat), .int .u32 (s.to_ : Nat), .int .u32 (s.tp : Nat), .int .u32 (s.wi : Nat), .int .u16 (s.ou : Nat), .int .u16 (s.ins : Nat), .int .u16 (s.op : Nat), .int .u16 (s.pp : Nat), .string (bs s.peer), .int .i64 s.made, .int .i64 s.life]
def okT (x : Int) : Bool := decide (0 ≤ x) && decide (x ≤ 1099511627776)
def tms (s : St) : List Int := [s.made, s.life]
def nms (s : St) : List Nat := [s.ot, s.pt, s.ou, s.ins, s.op, s.pp]
def okP (s : St) : Bool := s.peer.length == 4 || s.peer.length == 16
theorem right_eq (s : St) : right s = (okP s && (tms s).all okT && (nms s).all (· != 0)) := by
  simp only [right, okP, tms, nms, okT, List.all_cons, List.all_nil, Bool.and_true, Bool.and_assoc]
theorem right_of {s : St} (h1 : okP s = true) (h2 : ∀ j, j < 2 → okT ((tms s).getD j 0) = true) (h3 : ∀ j, j < 6 → (nms s).getD j 0 ≠ 0) : right s = true := by
  have a := h2 0 (by omega)
  have b := h2 1 (by omega)
  have c0 := h3 0 (by omega)
  have c1 := h3 1 (by omega)
  have c2 := h3 2 (by omega)
  have c3 := h3 3 (by omega)
  have c4 := h3 4 (by omega)
  have c5 := h3 5 (by omega)
  simp [tms, nms] at a b c0 c1 c2 c3 c4 c5
  simp [right_eq, h1, tms, nms, a, b, c0, c1, c2, c3, c4, c5]
theorem right_noP {s : St} (h : okP s = false) : right s = false := by rw [right_eq, h]; rfl
theorem right_noT {s : St} {i : Nat} (hi : i < 2) (h : okT ((tms s).getD i 0) = false) : right s = false := by
  rw [right_eq]
  have : (tms s).all okT = false := by
    rw [List.all_eq_false]
    refine ⟨(tms s).getD i 0, ?_, by rw [h]; simp⟩
    rw [List.getD_eq_getElem?_getD, List.getElem?_eq_getElem (by simpa [tms] using hi)]
    exact List.getElem_mem _
  rw [this]; simp
theorem right_noN {s : St} {i : Nat} (hi : i < 6) (h : (nms s).getD i 0 = 0) : right s = false := by
  rw [right_eq]
  have : (nms s).all (· != 0) = false := by
    rw [List.all_eq_false]
    refine ⟨(nms s).getD i 0, ?_, by rw [h]; simp⟩
    rw [List.getD_eq_getElem?_getD, List.getElem?_eq_getElem (by simpa [nms] using hi)]
    exact List.getElem_mem _
  rw [this]; simp
theorem val_cut_lt {b : List UInt8} {i j : Nat} (h : j ≤ b.length) : val (cut b i j) < 256 ^ (j - i) := by
  have := val_lt (cut b i j)
  rwa [cut_len h] at this
theorem parse_ok {b : List UInt8} (h : 53 ≤ b.length) : (parse b).Ok :=
  ⟨val_cut_lt (b := b) (i := 0) (j := 4) (by omega), val_cut_lt (b := b) (i := 4) (j := 8) (by omega), val_cut_lt (b := b) (i := 8) (j := 12) (by omega), val_cut_lt (b := b) (i := 12) (j := 16) (by omega), val_cut_lt (b := b) (i := 16) (j := 20) (by omega),
    val_cut_lt (b := b) (i := 20) (j := 24) (by omega), val_cut_lt (b := b) (i := 24) (j := 28) (by omega), val_cut_lt (b := b) (i := 28) (j := 30) (by omega), val_cut_lt (b := b) (i := 30) (j := 32) (by omega), val_cut_lt (b := b) (i := 32) (j := 34) (by omega), val_cut_lt (b := b) (i := 34) (j := 36) (by omega)⟩
theorem St.zero_ok : St.zero.Ok := ⟨by decide, by decide, by decide, by decide, by decide, by decide, by decide, by decide, by decide, by decide, by decide⟩
/-- A cookie, or what is wrong. -/
def build (k : List UInt8) (s : St) : List UInt8 × Int := if right s then (Hm.sum k (bytes s) ++ bytes s, 0) else ([], 1)
def read (k c : List UInt8) : St × Int :=
  if c.length < 32 then (St.zero, 3) else if Hm.sum k (c.drop 32) ≠ c.take 32 then (St.zero, 5) else if (c.drop 32).length < 53 then (St.zero, 2)
  else if val (cut (c.drop 32) 52 53) ≠ ((c.drop 32).drop 53).length ∨ right (parse (c.drop 32)) = false then (St.zero, 2) else (parse (c.drop 32), 0)
/-- Keys: what is built and read under them. -/
def kbuild : List (List UInt8) → St → List UInt8 × Int
  | [], _ => ([], 8)
  | k :: _, s => build k s
def kfin (p : St × Int) (now : Int) : St × Int := if p.2 ≠ 0 then (St.zero, p.2) else if now < p.1.made ∨ p.1.life < now - p.1.made then (St.zero, 7) else p
def kread : List (List UInt8) → Int → List UInt8 → Int → St × Int
  | [], _, _, _ => (St.zero, 8)
  | k :: r, since, c, now => kfin (if (read k c).2 = 5 ∧ r ≠ [] ∧ now - since ≤ 60000 then read (r.headD []) c else read k c) now
theorem read_facts (k c : List UInt8) (hc : c.length ≤ 1000000) : (read k c).1.Ok ∧ (read k c).1.peer.length ≤ 1000000 ∧ 0 ≤ (read k c).1.made ∧ (read k c).1.made ≤ 1099511627776 ∧ 0 ≤ (read k c).1.life ∧ (read k c).1.life ≤ 1099511627776 := by
  have hz : St.zero.Ok ∧ St.zero.peer.length ≤ 1000000 ∧ 0 ≤ St.zero.made ∧ St.zero.made ≤ 1099511627776 ∧ 0 ≤ St.zero.life ∧ St.zero.life ≤ 1099511627776 := ⟨St.zero_ok, by simp [St.zero], by simp [St.zero], by simp [St.zero], by simp [St.zero], by simp [St.zero]⟩
  unfold read
  split
  · exact hz
  split
  · exact hz
  split
  · exact hz
  split
  · exact hz
  · rename_i h1 h2 h3 h4
    have hr : right (parse (c.drop 32)) = true := by
      cases h : right (parse (c.drop 32)) with
      | true => rfl
      | false => exact absurd (.inr h) h4
    obtain ⟨hp, hm, _⟩ := right_iff.1 hr
    have hp2 : (parse (c.drop 32)).peer.length ≤ 1000000 := by rcases hp with h | h <;> omega
    exact ⟨parse_ok (by omega), hp2, hm⟩
end Ck

end Go.Proofs.Ytheilikelcgdmaa
