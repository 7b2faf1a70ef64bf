/- The digest: the words of a block, of the program. -/
import Derived.Test.YtheilikelcgdmaaShA
namespace Go.Proofs.Ytheilikelcgdmaa
open Go.RowKit
open Go.Proofs.Ytheilikelcgdmaa.Sha
set_option linter.unusedVariables false
set_option maxRecDepth 100000

def part (b : List UInt8) (i : Nat) : Nat → W
  | 0 => 0
  | k + 1 => part b i k <<< 8 ||| BitVec.ofNat 32 (b.getD (4 * i + k) 0).toNat
theorem shl_or (n d : Nat) (hn : n < 16777216) (hd : d < 256) : (BitVec.ofNat 32 n) <<< 8 ||| BitVec.ofNat 32 d = BitVec.ofNat 32 (n * 256 + d) := by
  apply BitVec.eq_of_toNat_eq
  rw [BitVec.toNat_or, BitVec.toNat_shiftLeft, BitVec.toNat_ofNat, BitVec.toNat_ofNat, BitVec.toNat_ofNat, Nat.mod_eq_of_lt (by omega), Nat.mod_eq_of_lt (a := d) (by omega), Nat.shiftLeft_eq, Nat.mod_eq_of_lt (by omega), Nat.mod_eq_of_lt (by omega)]
  have := Nat.shiftLeft_add_eq_or_of_lt (b := d) (i := 8) (by omega) n
  rw [Nat.shiftLeft_eq] at this
  omega
theorem part4 (b : List UInt8) (i : Nat) : part b i 4 = wd (b.getD (4 * i) 0) (b.getD (4 * i + 1) 0) (b.getD (4 * i + 2) 0) (b.getD (4 * i + 3) 0) := by
  have h0 := b_lt (b.getD (4 * i) 0)
  have h1 := b_lt (b.getD (4 * i + 1) 0)
  have h2 := b_lt (b.getD (4 * i + 2) 0)
  have h3 := b_lt (b.getD (4 * i + 3) 0)
  unfold wd
  simp only [part, Nat.add_zero]
  rw [show (0 : W) <<< 8 = BitVec.ofNat 32 0 from rfl, BitVec.zero_or, shl_or _ _ (by omega) h1, shl_or _ _ (by omega) h2, shl_or _ _ (by omega) h3]
/-- The words as far as they are laid. -/
def sw (b : List UInt8) (i k : Nat) : List W := (List.range 64).map fun j => if j < i then (words b).getD j 0 else if j = i then part b i k else 0
theorem sw_len (b : List UInt8) (i k : Nat) : (sw b i k).length = 64 := by simp [sw]
theorem sw_at (b : List UInt8) (i k j : Nat) (hj : j < 64) : (sw b i k)[j]? = some (if j < i then (words b).getD j 0 else if j = i then part b i k else 0) := by simp [sw, List.getElem?_range hj]
theorem sw_done (b : List UInt8) {i k j : Nat} (hj : j < i) (hi : i ≤ 64) : (sw b i k)[j]? = some ((words b).getD j 0) := by rw [sw_at b i k j (by omega), if_pos hj]
theorem sw_cur (b : List UInt8) {i k : Nat} (hi : i < 64) : (sw b i k)[i]? = some (part b i k) := by rw [sw_at b i k i hi, if_neg (by omega), if_pos rfl]
theorem sw_ext {b : List UInt8} {i k : Nat} {l : List W} (hl : l.length = 64) (h : ∀ j, j < 64 → l[j]? = some (if j < i then (words b).getD j 0 else if j = i then part b i k else 0)) : l = sw b i k := by
  apply List.ext_getElem?
  intro j
  by_cases hj : j < 64
  · rw [h j hj, sw_at b i k j hj]
  · rw [List.getElem?_eq_none (by omega), List.getElem?_eq_none (by rw [sw_len]; omega)]
theorem sw_set (b : List UInt8) {i k : Nat} (hi : i < 64) : (sw b i k).set i (part b i (k + 1)) = sw b i (k + 1) := sw_ext (by rw [List.length_set, sw_len]) fun j hj => by
  rw [List.getElem?_set]
  by_cases e : i = j
  · subst e; rw [if_pos rfl, if_pos (by rw [sw_len]; exact hi), if_neg (by omega), if_pos rfl]
  · rw [if_neg e, sw_at b i k j hj]
    by_cases h1 : j < i
    · rw [if_pos h1, if_pos h1]
    · rw [if_neg h1, if_neg h1, if_neg (fun h => e h.symm), if_neg (fun h => e h.symm)]
theorem sw_next (b : List UInt8) {i : Nat} (hi : i < 16) : sw b i 4 = sw b (i + 1) 0 := sw_ext (by rw [sw_len]) fun j hj => by
  rw [sw_at b i 4 j hj]
  by_cases h1 : j < i
  · rw [if_pos h1, if_pos (by omega)]
  · by_cases h2 : j = i
    · subst h2; rw [if_neg h1, if_pos rfl, if_pos (by omega), part4, words_first b hi]
    · rw [if_neg h1, if_neg h2, if_neg (by omega)]
      split
      · rfl
      · rfl
theorem sw_put (b : List UInt8) {t : Nat} (ht : t < 64) : (sw b t 0).set t ((words b).getD t 0) = sw b (t + 1) 0 := sw_ext (by rw [List.length_set, sw_len]) fun j hj => by
  rw [List.getElem?_set]
  by_cases e : t = j
  · subst e; rw [if_pos rfl, if_pos (by rw [sw_len]; exact ht), if_pos (by omega)]
  · rw [if_neg e, sw_at b t 0 j hj]
    by_cases h1 : j < t
    · rw [if_pos h1, if_pos (by omega)]
    · rw [if_neg h1, if_neg (fun h => e h.symm), if_neg (by omega)]
      split <;> rfl
theorem sw_zero (b : List UInt8) : List.replicate 64 0 = sw b 0 0 := sw_ext (by simp) fun j hj => by
  rw [List.getElem?_replicate, if_pos hj, if_neg (by omega)]
  split <;> rfl
theorem sw_all (b : List UInt8) : sw b 64 0 = words b := (sw_ext (words_len b) fun j hj => by
  rw [if_pos hj, List.getD_eq_getElem?_getD, List.getElem?_eq_getElem (by rw [words_len]; exact hj)]; rfl).symm

theorem bytes_get {b : List UInt8} {j : Nat} (h : j < b.length) : (flat bc b)[j]? = some (bv (b.getD j 0)) := by
  rw [flat_bc, List.getElem?_map, List.getD_eq_getElem?_getD, List.getElem?_eq_getElem h]; rfl

set_option maxHeartbeats 4000000 in
theorem schedule_q (A : Option Addr) (c : Nat) (b : List UInt8) (w : World) (hL : Lst bc 1 w w.heap.size A 64 b) :
    Calls Try.prog 58 #[.slice A 64 c] w fun e w' => e = .returned (.agg (wds (words b)).toArray) ∧ Below w.heap.size w w' := by
  have hl := hL.len
  refine enterW (fun _ => False) _ Try.func58 rfl (by simp only [Try.ntmps58, List.length_cons, List.length_nil, Nat.reduceAdd, Nat.reduceSub]; rfl) ?_
  refine WC.addVw bc_len hL ?_
  refine WC.vwAt 0 rfl (by omega) fun gb ob hgb => ?_
  subst hgb
  repeat' (first
    | refine goS ?_
    | ((with_reducible refine WL.isN_bin ?_); first | refine WL.yld rfl binQ ?_)
    | ((with_reducible refine WL.isN_load ?_); first | refine WL.yld rfl loadQ ?_)
    | ((with_reducible refine WL.isN_iaddr ?_); first | refine WL.yld rfl iaddrQ ?_)
    | ((with_reducible refine WL.isN_conv ?_); first | refine WL.yld rfl convQ ?_)
    | ((with_reducible refine WL.isN_call ?_); first | refine WL.step rfl (StepTo.allocA (cs := wds (List.replicate 64 0)) rfl rfl rfl (by kernel_rfl) (fun _ => ?_)))
    | ((with_reducible refine WL.isN_alloc ?_); first | refine WL.step rfl (StepTo.allocA rfl rfl rfl rfl (fun _ => ?_)) | refine WL.step rfl (StepTo.alloc1 rfl rfl rfl rfl rfl (fun _ => ?_)))
    | ((with_reducible refine WL.isN_store ?_); first | refine WL.step rfl (StepTo.st1 rfl rfl rfl rfl rfl rfl ?_) | refine WL.step rfl (StepTo.stA rfl rfl rfl rfl rfl rfl rfl ?_) | refine WL.step rfl (StepTo.stR rfl rfl rfl rfl rfl rfl rfl ?_))
    | with_reducible refine WC.block ?_
    | (refine WC.cond rfl (fun hc => ?_) (fun hc => ?_) <;> (try first | (with_reducible replace hc := of_decide_eq_true hc) | (with_reducible replace hc := of_decide_eq_false hc) | (with_reducible replace hc := eqT hc) | (with_reducible replace hc := eqF hc) | (with_reducible replace hc := neT hc) | (with_reducible replace hc := neF hc) | (with_reducible replace hc := noT hc) | (with_reducible replace hc := noF hc)) <;> (try (exfalso; omega))))
  rename_i b2 b3
  refine WC.loop (fun mm τ H => ∃ (i : Nat) (L : List W), i ≤ 16 ∧ mm = 16 - i ∧ L = sw b i 0 ∧
      τ = [(0, .slice (some ⟨gb, ob, none⟩) 64 c), (2, .pointer (some ⟨b2, 0, none⟩)), (3, .pointer (some ⟨b3, 0, none⟩)), (9, .int .i64 i)] ∧
      H = [.box b3 111 (wds L), .box b2 111 (wds (List.replicate 64 0)), .vw (some ⟨gb, ob, none⟩) 64 1 (flat bc b)])
    16 _ _ [0, 1, 2] ?_ ?_ ⟨0, _, by omega, rfl, sw_zero b, rfl, rfl⟩ ?_
  · exact (by repeat (first | exact Sub.nil | refine Sub.cons rfl ?_ | refine Sub.consE rfl (int_eq (by omega)) ?_))
  · exact ⟨by decide, rfl⟩
  rintro mm τ H ⟨i, L, hi, rfl, hLs, rfl, rfl⟩
  by_cases hlt : i < 16
  · repeat' (first
    | refine goS ?_
    | ((with_reducible refine WL.isN_bin ?_); first | refine WL.yld rfl binQ ?_)
    | ((with_reducible refine WL.isN_load ?_); first | refine WL.yld rfl loadQ ?_)
    | ((with_reducible refine WL.isN_iaddr ?_); first | refine WL.yld rfl iaddrQ ?_)
    | ((with_reducible refine WL.isN_conv ?_); first | refine WL.yld rfl convQ ?_)
    | ((with_reducible refine WL.isN_alloc ?_); first | refine WL.step rfl (StepTo.allocA rfl rfl rfl rfl (fun _ => ?_)) | refine WL.step rfl (StepTo.alloc1 rfl rfl rfl rfl rfl (fun _ => ?_)))
    | ((with_reducible refine WL.isN_store ?_); first | refine WL.step rfl (StepTo.st1 rfl rfl rfl rfl rfl rfl ?_) | refine WL.step rfl (StepTo.stA rfl rfl rfl rfl rfl rfl rfl ?_) | refine WL.step rfl (StepTo.stR rfl rfl rfl rfl rfl rfl rfl ?_))
    | with_reducible refine WC.block ?_
    | (refine WC.cond rfl (fun hc => ?_) (fun hc => ?_) <;> (try first | (with_reducible replace hc := of_decide_eq_true hc) | (with_reducible replace hc := of_decide_eq_false hc) | (with_reducible replace hc := eqT hc) | (with_reducible replace hc := eqF hc) | (with_reducible replace hc := neT hc) | (with_reducible replace hc := neF hc) | (with_reducible replace hc := noT hc) | (with_reducible replace hc := noF hc)) <;> (try (exfalso; omega))))
    refine WC.loop (fun mm τ H => ∃ (k : Nat) (L : List W), k ≤ 4 ∧ mm = 4 - k ∧ L = sw b i k ∧
        τ = [(0, .slice (some ⟨gb, ob, none⟩) 64 c), (2, .pointer (some ⟨b2, 0, none⟩)), (3, .pointer (some ⟨b3, 0, none⟩)), (4, .int .i64 i), (9, .int .i64 i), (12, .int .i64 k)] ∧
        H = [.box b3 111 (wds L), .box b2 111 (wds (List.replicate 64 0)), .vw (some ⟨gb, ob, none⟩) 64 1 (flat bc b)])
      4 _ _ [0, 1, 2] ?_ ?_ ⟨0, _, by omega, rfl, hLs, rfl, rfl⟩ ?_
    · exact (by repeat (first | exact Sub.nil | refine Sub.cons rfl ?_ | refine Sub.consE rfl (int_eq (by omega)) ?_))
    · exact ⟨by decide, rfl⟩
    clear hLs
    rintro mm τ H ⟨k, L, hk, rfl, hLk, rfl, rfl⟩
    by_cases hk4 : k < 4
    · have hcur : (wds L)[i]? = some (wv (part b i k)) := wds_get (by rw [hLk]; exact sw_cur b (by omega))
      have hbyte := bytes_get (b := b) (j := 4 * i + k) (by omega)
      have hset : (wds L).set i (wv (part b i k <<< 8 ||| BitVec.ofNat 32 (b.getD (4 * i + k) 0).toNat)) = wds (sw b i (k + 1)) := by rw [wds_set, hLk]; exact congrArg wds (sw_set b (by omega))
      have hll : i < (wds L).length := by rw [wds_len, hLk, sw_len]; omega
      repeat' (first
    | refine goS ?_
    | ((with_reducible refine WL.isN_bin ?_); first | refine WL.yld rfl binQ ?_)
    | ((with_reducible refine WL.isN_load ?_); first | refine WL.yld rfl loadQ ?_)
    | ((with_reducible refine WL.isN_iaddr ?_); first | refine WL.yld rfl iaddrQ ?_)
    | ((with_reducible refine WL.isN_conv ?_); first | refine WL.yld rfl convQ ?_)
    | ((with_reducible refine WL.isN_alloc ?_); first | refine WL.step rfl (StepTo.allocA rfl rfl rfl rfl (fun _ => ?_)) | refine WL.step rfl (StepTo.alloc1 rfl rfl rfl rfl rfl (fun _ => ?_)))
    | ((with_reducible refine WL.isN_store ?_); first | refine WL.step rfl (StepTo.st1 rfl rfl rfl rfl rfl rfl ?_) | refine WL.step rfl (StepTo.stA rfl rfl rfl rfl rfl rfl rfl ?_) | refine WL.step rfl (StepTo.stR rfl rfl rfl rfl rfl rfl rfl ?_))
    | with_reducible refine WC.block ?_
    | (refine WC.cond rfl (fun hc => ?_) (fun hc => ?_) <;> (try first | (with_reducible replace hc := of_decide_eq_true hc) | (with_reducible replace hc := of_decide_eq_false hc) | (with_reducible replace hc := eqT hc) | (with_reducible replace hc := eqF hc) | (with_reducible replace hc := neT hc) | (with_reducible replace hc := neF hc) | (with_reducible replace hc := noT hc) | (with_reducible replace hc := noF hc)) <;> (try (exfalso; omega))))
      refine WC.tail 15 (by kernel_rfl) (by kernel_rfl) ?_
      simp only [List.take_succ_cons, List.take_zero, List.drop_succ_cons, List.drop_zero]
      repeat (first | refine WT.yld rfl (Yld.indexA i rfl rfl rfl rfl rfl rfl (by omega)) ?_ | refine WT.yld rfl (Yld.indexS (4 * i + k) rfl rfl rfl rfl rfl (by omega) (by omega)) ?_ | refine WT.yld rfl (Yld.load rfl rfl rfl rfl (CellAt.boxE 0 rfl hcur (by omega))) ?_ | refine WT.yld rfl (Yld.load rfl rfl rfl rfl (CellAt.vwE 2 rfl hbyte (by omega))) ?_ | refine WT.yld rfl (Yld.shlW rfl rfl rfl rfl rfl) ?_ | refine WT.yld rfl (Yld.convInt rfl rfl rfl rfl wOfB) ?_ | refine WT.yld rfl (Yld.pure rfl wOr) ?_ | refine WT.yld rfl (Yld.pure rfl nrmQ) ?_)
      refine WT.nil ?_
      refine WL.step rfl (StepTo.stB 0 rfl rfl rfl rfl rfl rfl rfl rfl (by omega) hll hset setQ ?_)
      repeat' (first
    | refine goS ?_
    | ((with_reducible refine WL.isN_bin ?_); first | refine WL.yld rfl binQ ?_)
    | ((with_reducible refine WL.isN_load ?_); first | refine WL.yld rfl loadQ ?_)
    | ((with_reducible refine WL.isN_iaddr ?_); first | refine WL.yld rfl iaddrQ ?_)
    | ((with_reducible refine WL.isN_conv ?_); first | refine WL.yld rfl convQ ?_)
    | ((with_reducible refine WL.isN_alloc ?_); first | refine WL.step rfl (StepTo.allocA rfl rfl rfl rfl (fun _ => ?_)) | refine WL.step rfl (StepTo.alloc1 rfl rfl rfl rfl rfl (fun _ => ?_)))
    | ((with_reducible refine WL.isN_store ?_); first | refine WL.step rfl (StepTo.st1 rfl rfl rfl rfl rfl rfl ?_) | refine WL.step rfl (StepTo.stA rfl rfl rfl rfl rfl rfl rfl ?_) | refine WL.step rfl (StepTo.stR rfl rfl rfl rfl rfl rfl rfl ?_))
    | with_reducible refine WC.block ?_
    | (refine WC.cond rfl (fun hc => ?_) (fun hc => ?_) <;> (try first | (with_reducible replace hc := of_decide_eq_true hc) | (with_reducible replace hc := of_decide_eq_false hc) | (with_reducible replace hc := eqT hc) | (with_reducible replace hc := eqF hc) | (with_reducible replace hc := neT hc) | (with_reducible replace hc := neF hc) | (with_reducible replace hc := noT hc) | (with_reducible replace hc := noF hc)) <;> (try (exfalso; omega))))
      exact WQ.rnd (4 - (k + 1)) _ _ [0, 1, 2] (by repeat (first | exact Sub.nil | refine Sub.cons rfl ?_ | refine Sub.consE rfl (int_eq (by omega)) ?_)) ⟨by decide, rfl⟩ (by omega) ⟨k + 1, _, by omega, rfl, rfl, rfl, rfl⟩
    obtain rfl : k = 4 := by omega
    repeat' (first
    | refine goS ?_
    | ((with_reducible refine WL.isN_bin ?_); first | refine WL.yld rfl binQ ?_)
    | ((with_reducible refine WL.isN_load ?_); first | refine WL.yld rfl loadQ ?_)
    | ((with_reducible refine WL.isN_iaddr ?_); first | refine WL.yld rfl iaddrQ ?_)
    | ((with_reducible refine WL.isN_conv ?_); first | refine WL.yld rfl convQ ?_)
    | ((with_reducible refine WL.isN_alloc ?_); first | refine WL.step rfl (StepTo.allocA rfl rfl rfl rfl (fun _ => ?_)) | refine WL.step rfl (StepTo.alloc1 rfl rfl rfl rfl rfl (fun _ => ?_)))
    | ((with_reducible refine WL.isN_store ?_); first | refine WL.step rfl (StepTo.st1 rfl rfl rfl rfl rfl rfl ?_) | refine WL.step rfl (StepTo.stA rfl rfl rfl rfl rfl rfl rfl ?_) | refine WL.step rfl (StepTo.stR rfl rfl rfl rfl rfl rfl rfl ?_))
    | with_reducible refine WC.block ?_
    | (refine WC.cond rfl (fun hc => ?_) (fun hc => ?_) <;> (try first | (with_reducible replace hc := of_decide_eq_true hc) | (with_reducible replace hc := of_decide_eq_false hc) | (with_reducible replace hc := eqT hc) | (with_reducible replace hc := eqF hc) | (with_reducible replace hc := neT hc) | (with_reducible replace hc := neF hc) | (with_reducible replace hc := noT hc) | (with_reducible replace hc := noF hc)) <;> (try (exfalso; omega))))
    exact WQ.rnd (16 - (i + 1)) _ _ [0, 1, 2] (by repeat (first | exact Sub.nil | refine Sub.cons rfl ?_ | refine Sub.consE rfl (int_eq (by omega)) ?_)) ⟨by decide, rfl⟩ (by omega) ⟨i + 1, _, by omega, rfl, by rw [hLk]; exact sw_next b hlt, rfl, rfl⟩
  obtain rfl : i = 16 := by omega
  repeat' (first
    | refine goS ?_
    | ((with_reducible refine WL.isN_bin ?_); first | refine WL.yld rfl binQ ?_)
    | ((with_reducible refine WL.isN_load ?_); first | refine WL.yld rfl loadQ ?_)
    | ((with_reducible refine WL.isN_iaddr ?_); first | refine WL.yld rfl iaddrQ ?_)
    | ((with_reducible refine WL.isN_conv ?_); first | refine WL.yld rfl convQ ?_)
    | ((with_reducible refine WL.isN_alloc ?_); first | refine WL.step rfl (StepTo.allocA rfl rfl rfl rfl (fun _ => ?_)) | refine WL.step rfl (StepTo.alloc1 rfl rfl rfl rfl rfl (fun _ => ?_)))
    | ((with_reducible refine WL.isN_store ?_); first | refine WL.step rfl (StepTo.st1 rfl rfl rfl rfl rfl rfl ?_) | refine WL.step rfl (StepTo.stA rfl rfl rfl rfl rfl rfl rfl ?_) | refine WL.step rfl (StepTo.stR rfl rfl rfl rfl rfl rfl rfl ?_))
    | with_reducible refine WC.block ?_
    | (refine WC.cond rfl (fun hc => ?_) (fun hc => ?_) <;> (try first | (with_reducible replace hc := of_decide_eq_true hc) | (with_reducible replace hc := of_decide_eq_false hc) | (with_reducible replace hc := eqT hc) | (with_reducible replace hc := eqF hc) | (with_reducible replace hc := neT hc) | (with_reducible replace hc := neF hc) | (with_reducible replace hc := noT hc) | (with_reducible replace hc := noF hc)) <;> (try (exfalso; omega))))
  refine WC.loop (fun mm τ H => ∃ (t : Nat) (L : List W), 16 ≤ t ∧ t ≤ 64 ∧ mm = 64 - t ∧ L = sw b t 0 ∧
      τ = [(2, .pointer (some ⟨b2, 0, none⟩)), (3, .pointer (some ⟨b3, 0, none⟩)), (6, .int .i64 t)] ∧
      H = [.box b3 111 (wds L), .box b2 111 (wds (List.replicate 64 0))])
    (64 - 16) _ _ [0, 1] ?_ ?_ ⟨16, _, by omega, by omega, rfl, hLs, rfl, rfl⟩ ?_
  · exact (by repeat (first | exact Sub.nil | refine Sub.cons rfl ?_ | refine Sub.consE rfl (int_eq (by omega)) ?_))
  · exact ⟨by decide, rfl⟩
  clear hLs
  rintro mm τ H ⟨t, L, ht0, ht, rfl, hLt, rfl, rfl⟩
  by_cases htl : t < 64
  · have c2 : (wds L)[t - 2]? = some (wv ((words b).getD (t - 2) 0)) := wds_get (by rw [hLt]; exact sw_done b (by omega) ht)
    have c7 : (wds L)[t - 7]? = some (wv ((words b).getD (t - 7) 0)) := wds_get (by rw [hLt]; exact sw_done b (by omega) ht)
    have c15 : (wds L)[t - 15]? = some (wv ((words b).getD (t - 15) 0)) := wds_get (by rw [hLt]; exact sw_done b (by omega) ht)
    have c16 : (wds L)[t - 16]? = some (wv ((words b).getD (t - 16) 0)) := wds_get (by rw [hLt]; exact sw_done b (by omega) ht)
    have hn := words_next b ht0 htl
    have hset : (wds L).set t (wv ((words b).getD t 0)) = wds (sw b (t + 1) 0) := by rw [wds_set, hLt]; exact congrArg wds (sw_put b htl)
    have hll : t < (wds L).length := by rw [wds_len, hLt, sw_len]; omega
    rw [hn] at hset
    clear hn
    unfold g0 g1 at hset
    generalize (words b).getD (t - 2) 0 = y at *
    generalize (words b).getD (t - 15) 0 = x at *
    generalize (words b).getD (t - 7) 0 = x7 at *
    generalize (words b).getD (t - 16) 0 = x16 at *
    repeat' (first
    | refine goS ?_
    | ((with_reducible refine WL.isN_bin ?_); first | refine WL.yld rfl binQ ?_)
    | ((with_reducible refine WK.isN_bin ?_); first | refine WK.yld rfl binQ ?_)
    | ((with_reducible refine WL.isN_load ?_); first | refine WL.yld rfl (Yld.load rfl rfl rfl rfl (CellAt.boxE 0 rfl c2 (by omega))) ?_ | refine WL.yld rfl (Yld.load rfl rfl rfl rfl (CellAt.boxE 0 rfl c15 (by omega))) ?_ | refine WL.yld rfl loadQ ?_)
    | ((with_reducible refine WK.isN_load ?_); first | refine WK.yld rfl (Yld.load rfl rfl rfl rfl (CellAt.boxE 0 rfl c2 (by omega))) ?_ | refine WK.yld rfl (Yld.load rfl rfl rfl rfl (CellAt.boxE 0 rfl c15 (by omega))) ?_ | refine WK.yld rfl loadQ ?_)
    | ((with_reducible refine WL.isN_iaddr ?_); first | refine WL.yld rfl (Yld.indexA (t - 2) rfl rfl rfl rfl rfl (by omega) (by omega)) ?_ | refine WL.yld rfl (Yld.indexA (t - 15) rfl rfl rfl rfl rfl (by omega) (by omega)) ?_ | refine WL.yld rfl iaddrQ ?_)
    | ((with_reducible refine WK.isN_iaddr ?_); first | refine WK.yld rfl (Yld.indexA (t - 2) rfl rfl rfl rfl rfl (by omega) (by omega)) ?_ | refine WK.yld rfl (Yld.indexA (t - 15) rfl rfl rfl rfl rfl (by omega) (by omega)) ?_ | refine WK.yld rfl iaddrQ ?_)
    | ((with_reducible refine WL.isN_conv ?_); first | refine WL.yld rfl convQ ?_)
    | ((with_reducible refine WK.isN_conv ?_); first | refine WK.yld rfl convQ ?_)
    | ((with_reducible refine WL.isN_alloc ?_); first | refine WL.step rfl (StepTo.allocA rfl rfl rfl rfl (fun _ => ?_)) | refine WL.step rfl (StepTo.alloc1 rfl rfl rfl rfl rfl (fun _ => ?_)))
    | ((with_reducible refine WL.isN_store ?_); first | refine WL.step rfl (StepTo.st1 rfl rfl rfl rfl rfl rfl ?_) | refine WL.step rfl (StepTo.stA rfl rfl rfl rfl rfl rfl rfl ?_) | refine WL.step rfl (StepTo.stR rfl rfl rfl rfl rfl rfl rfl ?_))
    | with_reducible refine WC.block ?_
    | (refine WC.quiet (i := 14) (by kernel_rfl) (by kernel_rfl) ?_)
    | (refine WC.cond rfl (fun hc => ?_) (fun hc => ?_) <;> (try first | (with_reducible replace hc := of_decide_eq_true hc) | (with_reducible replace hc := of_decide_eq_false hc) | (with_reducible replace hc := eqT hc) | (with_reducible replace hc := eqF hc) | (with_reducible replace hc := neT hc) | (with_reducible replace hc := neF hc) | (with_reducible replace hc := noT hc) | (with_reducible replace hc := noF hc)) <;> (try (exfalso; omega))))
    refine WC.tail 29 (by kernel_rfl) (by kernel_rfl) ?_
    simp only [List.take_succ_cons, List.take_zero, List.drop_succ_cons, List.drop_zero]
    repeat (first | refine WT.call (v := wv (rr y 17)) (us := [wv y, .int .i64 17]) rfl rfl rfl (by kernel_rfl) (fun w => turn_e y 17 (by omega) (by omega) w) ?_ | refine WT.call (v := wv (rr y 19)) (us := [wv y, .int .i64 19]) rfl rfl rfl (by kernel_rfl) (fun w => turn_e y 19 (by omega) (by omega) w) ?_ | refine WT.call (v := wv (rr x 7)) (us := [wv x, .int .i64 7]) rfl rfl rfl (by kernel_rfl) (fun w => turn_e x 7 (by omega) (by omega) w) ?_ | refine WT.call (v := wv (rr x 18)) (us := [wv x, .int .i64 18]) rfl rfl rfl (by kernel_rfl) (fun w => turn_e x 18 (by omega) (by omega) w) ?_ | refine WT.yld rfl (Yld.indexA (t - 7) rfl rfl rfl rfl rfl (by omega) (by omega)) ?_ | refine WT.yld rfl (Yld.indexA (t - 16) rfl rfl rfl rfl rfl (by omega) (by omega)) ?_ | refine WT.yld rfl (Yld.indexA t rfl rfl rfl rfl rfl rfl (by omega)) ?_ | refine WT.yld rfl (Yld.load rfl rfl rfl rfl (CellAt.boxE 0 rfl c7 (by omega))) ?_ | refine WT.yld rfl (Yld.load rfl rfl rfl rfl (CellAt.boxE 0 rfl c16 (by omega))) ?_ | refine WT.yld rfl (Yld.shrW rfl rfl rfl rfl rfl) ?_ | refine WT.yld rfl (Yld.pure rfl wXor) ?_ | refine WT.yld rfl (Yld.pure rfl wAdd) ?_ | refine WT.yld rfl (Yld.pure rfl nrmQ) ?_)
    refine WT.nil ?_
    refine WL.step rfl (StepTo.stB 0 rfl rfl rfl rfl rfl rfl rfl rfl (by omega) hll hset setQ ?_)
    repeat' (first
    | refine goS ?_
    | ((with_reducible refine WL.isN_bin ?_); first | refine WL.yld rfl binQ ?_)
    | ((with_reducible refine WL.isN_load ?_); first | refine WL.yld rfl loadQ ?_)
    | ((with_reducible refine WL.isN_iaddr ?_); first | refine WL.yld rfl iaddrQ ?_)
    | ((with_reducible refine WL.isN_conv ?_); first | refine WL.yld rfl convQ ?_)
    | ((with_reducible refine WL.isN_alloc ?_); first | refine WL.step rfl (StepTo.allocA rfl rfl rfl rfl (fun _ => ?_)) | refine WL.step rfl (StepTo.alloc1 rfl rfl rfl rfl rfl (fun _ => ?_)))
    | ((with_reducible refine WL.isN_store ?_); first | refine WL.step rfl (StepTo.st1 rfl rfl rfl rfl rfl rfl ?_) | refine WL.step rfl (StepTo.stA rfl rfl rfl rfl rfl rfl rfl ?_) | refine WL.step rfl (StepTo.stR rfl rfl rfl rfl rfl rfl rfl ?_))
    | with_reducible refine WC.block ?_
    | (refine WC.cond rfl (fun hc => ?_) (fun hc => ?_) <;> (try first | (with_reducible replace hc := of_decide_eq_true hc) | (with_reducible replace hc := of_decide_eq_false hc) | (with_reducible replace hc := eqT hc) | (with_reducible replace hc := eqF hc) | (with_reducible replace hc := neT hc) | (with_reducible replace hc := neF hc) | (with_reducible replace hc := noT hc) | (with_reducible replace hc := noF hc)) <;> (try (exfalso; omega))))
    exact WQ.rnd (64 - (t + 1)) _ _ [0, 1] (by repeat (first | exact Sub.nil | refine Sub.cons rfl ?_ | refine Sub.consE rfl (int_eq (by omega)) ?_)) ⟨by decide, rfl⟩ (by omega) ⟨t + 1, _, by omega, by omega, rfl, rfl, rfl, rfl⟩
  obtain rfl : t = 64 := by omega
  have hwl : (wds L).length = 64 := by rw [wds_len, hLt, sw_len]
  have hfin : Value.agg (wds L).toArray = .agg (wds (words b)).toArray := by rw [hLt, sw_all]
  clear hLt
  repeat' (first
    | refine goS ?_
    | ((with_reducible refine WL.isN_bin ?_); first | refine WL.yld rfl binQ ?_)
    | ((with_reducible refine WL.isN_load ?_); first | refine WL.yld rfl (Yld.loadAgg rfl rfl rfl rfl rfl (AggAt.boxAll 0 rfl hwl)) ?_ | refine WL.yld rfl loadQ ?_)
    | ((with_reducible refine WL.isN_iaddr ?_); first | refine WL.yld rfl iaddrQ ?_)
    | ((with_reducible refine WL.isN_conv ?_); first | refine WL.yld rfl convQ ?_)
    | ((with_reducible refine WL.isN_alloc ?_); first | refine WL.step rfl (StepTo.allocA rfl rfl rfl rfl (fun _ => ?_)) | refine WL.step rfl (StepTo.alloc1 rfl rfl rfl rfl rfl (fun _ => ?_)))
    | ((with_reducible refine WL.isN_store ?_); first | refine WL.step rfl (StepTo.stBA 1 rfl rfl rfl rfl rfl (wds_one _) rfl rfl hwl setQ ?_) | refine WL.step rfl (StepTo.st1 rfl rfl rfl rfl rfl rfl ?_) | refine WL.step rfl (StepTo.stA rfl rfl rfl rfl rfl rfl rfl ?_) | refine WL.step rfl (StepTo.stR rfl rfl rfl rfl rfl rfl rfl ?_))
    | with_reducible refine WC.block ?_
    | (refine WC.cond rfl (fun hc => ?_) (fun hc => ?_) <;> (try first | (with_reducible replace hc := of_decide_eq_true hc) | (with_reducible replace hc := of_decide_eq_false hc) | (with_reducible replace hc := eqT hc) | (with_reducible replace hc := eqF hc) | (with_reducible replace hc := neT hc) | (with_reducible replace hc := neF hc) | (with_reducible replace hc := noT hc) | (with_reducible replace hc := noF hc)) <;> (try (exfalso; omega))))
  exact WQ.body (Reads.one rfl (Res1.cellA rfl rfl rfl rfl (AggAt.boxAll 1 rfl hwl))) fun w' hw' => ⟨by rw [← hfin], hw'.ext.below⟩
end Go.Proofs.Ytheilikelcgdmaa
