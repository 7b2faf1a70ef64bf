/- The laws of order: what they share. -/
import Derived.Test.YtegefnidhdicdaaOrdPutW
import Derived.Test.YtegefnidhdicdaaOrdShown
namespace Go.Proofs.Ytegefnidhdicdaa
open Go.RowKit
set_option linter.unusedVariables false

theorem New.mono {V V' : Nat → Prop} {N : List Item} {w w' : World} (h : New V N w w') (hv : ∀ b, V b → V' b) : New V' N w w' :=
  ⟨h.1, fun it hit => ⟨(h.2.1 it hit).1, fun b hb => ((h.2.1 it hit).2 b hb).imp id fun ⟨h1, h2⟩ => ⟨h1, hv b h2⟩⟩, h.2.2⟩

/-- 'Put' at a queue that is read alone. -/
theorem put_s {w0 w : World} {D : Nat → Prop} {H : List Item} (hw : Sat w0 D H w) (i j : Nat) {AN AW : Option Addr} {kN cN nW cW : Nat} {m : Msg} {next : List Int} {wait : List Msg} (hi : H[i]? = some (.vw AN kN 1 (flat u16c next))) (hj : H[j]? = some (.vw AW nW 6 (flat Msg.cs wait)))
    (oN : okA AN kN) (oW : okA AW nW) (hk : kN ≤ 65535) (hn : nW < 1000000) (h0 : 0 ≤ m.stream) (h1 : m.stream ≤ 65535) (hr : ∀ x ∈ next, 0 ≤ x ∧ x ≤ 65535) :
    Calls Try.prog 11 #[.agg #[.slice AN kN cN, .slice AW nW cW], .agg #[.int .u32 m.first, .bool m.free, .int .u16 m.stream, .int .u16 m.ssn, .int .u32 m.ppid, .string m.text]] w
      fun e w' => ∃ v N, e = .returned v ∧ PutR (putF next wait m) v N ∧ New (Vs H [i, j]) N w w' := by
  obtain ⟨s, hs⟩ := Int.eq_ofNat_of_zero_le h0
  have := put_w AN AW kN cN nW cW s m.first m.ssn m.ppid m.free m.text next wait w hk hn (by omega) (hw.lst i u16c_len (by omega) hi) (hw.lst j Msg.cs_len (by omega) hj) oN oW hr
  rw [← hs] at this
  refine this.mono fun e w' ⟨v, N, he, hR, hN⟩ => ⟨v, N, he, hR, hN.mono fun b hb => ?_⟩
  rcases hb with hb | hb
  · exact ⟨i, by simp, _, hi, rfl, by rw [blk_vw]; exact hb⟩
  · exact ⟨j, by simp, _, hj, rfl, by rw [blk_vw]; exact hb⟩
/-- What 'Put' hands back, part by part. -/
def PutQ (c : Int) (nx : List Int) (wt tl : List Msg) (v : Value) (N : List Item) : Prop :=
  ∃ AN' kN' cN' AW' nW' cW' L nl cl, v = .tuple #[.agg #[.slice AN' kN' cN', .slice AW' nW' cW'], .slice L nl cl, .int .i64 c] ∧ N = [.vw AN' kN' 1 (flat u16c nx), .vw AW' nW' 6 (flat Msg.cs wt), .vw L nl 6 (flat Msg.cs tl)] ∧
    okA AN' kN' ∧ okA AW' nW' ∧ nx.length = kN' ∧ wt.length = nW' ∧ tl.length = nl
theorem put_e {w0 w : World} {D : Nat → Prop} {H : List Item} (hw : Sat w0 D H w) (i j : Nat) {AN AW : Option Addr} {kN cN nW cW : Nat} {m : Msg} {next : List Int} {wait : List Msg} {c : Int} {nx : List Int} {wt tl : List Msg} (e : putF next wait m = (c, nx, wt, tl))
    (hi : H[i]? = some (.vw AN kN 1 (flat u16c next))) (hj : H[j]? = some (.vw AW nW 6 (flat Msg.cs wait)))
    (oN : okA AN kN) (oW : okA AW nW) (hk : kN ≤ 65535) (hn : nW < 1000000) (h0 : 0 ≤ m.stream) (h1 : m.stream ≤ 65535) (hr : ∀ x ∈ next, 0 ≤ x ∧ x ≤ 65535) :
    Calls Try.prog 11 #[.agg #[.slice AN kN cN, .slice AW nW cW], .agg #[.int .u32 m.first, .bool m.free, .int .u16 m.stream, .int .u16 m.ssn, .int .u32 m.ppid, .string m.text]] w
      fun e w' => ∃ v N, e = .returned v ∧ PutQ c nx wt tl v N ∧ New (Vs H [i, j]) N w w' := by
  have := put_s (cN := cN) (cW := cW) hw i j hi hj oN oW hk hn h0 h1 hr (m := m)
  rw [e] at this
  exact this
/-- A new queue. -/
theorem new_s (k : Nat) (w : World) {V : Nat → Prop} (h : 1 ≤ k) (h' : k ≤ 16) :
    Calls Try.prog 9 #[.int .i64 k] w fun e w' => ∃ v N, e = .returned v ∧ (∃ A c, v = .tuple #[.agg #[.slice A k c, .slice none 0 0], .int .i64 0] ∧ N = [.row A k c 31 1 (flat u16c (List.replicate k 0))] ∧ okA A k) ∧ New V N w w' := by
  refine (new_yes k w h h').mono ?_
  rintro e w' ⟨g, c, rfl, O, b⟩
  exact ⟨_, _, rfl, ⟨_, c, rfl, rfl, own_okA O⟩, new_row O b⟩

theorem putF_free {next : List Int} {wait : List Msg} {m : Msg} (h : m.free = true) (hs : m.stream < next.length) : putF next wait m = (0, next, wait, [m]) := by
  unfold putF
  rw [if_neg (by omega), if_pos h]
theorem putF_stream {next : List Int} {wait : List Msg} {m : Msg} (hs : (next.length : Int) ≤ m.stream) : putF next wait m = (12, [], [], []) := by
  unfold putF
  rw [if_pos hs]
theorem putF_code (next : List Int) (wait : List Msg) (m : Msg) : (putF next wait m).1 = 0 ∨ (putF next wait m).1 = 9 ∨ (putF next wait m).1 = 12 := by
  unfold putF
  split
  · exact .inr (.inr rfl)
  · split
    · exact .inl rfl
    · split
      · exact .inr (.inl rfl)
      · exact .inl rfl
theorem QOk.new (k : Nat) (P : Msg → Prop) : QOk k 0 P (List.replicate k 0) [] := ⟨by simp, by simp, fun x hx => by rw [List.eq_of_mem_replicate hx]; omega, by simp⟩
theorem QOk.later {k n n' : Nat} {P : Msg → Prop} {next : List Int} {wait : List Msg} (h : QOk k n P next wait) (hn : n ≤ n') : QOk k n' P next wait := ⟨h.len, Nat.le_trans h.most hn, h.nums, h.all⟩

end Go.Proofs.Ytegefnidhdicdaa
