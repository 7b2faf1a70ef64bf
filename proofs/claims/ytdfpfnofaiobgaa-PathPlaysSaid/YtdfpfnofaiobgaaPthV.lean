/- What holds of paths, whatever happens. -/
import Derived.Test.YtdfpfnofaiobgaaPthO
namespace Go.Proofs.Ytdfpfnofaiobgaa
open Go.RowKit
open Go.Proofs.Ytdfpfnofaiobgaa.Rto Go.Proofs.Ytdfpfnofaiobgaa.Win Go.Proofs.Ytdfpfnofaiobgaa.Pth
set_option linter.unusedVariables false
set_option maxRecDepth 100000

/-- What holds of a path behind m acts. -/
structure Hd (p : Pth) (m : Nat) : Prop where
  st : p.state = 1 ∨ p.state = 2 ∨ p.state = 3
  er : 0 ≤ p.errors ∧ p.errors ≤ m
  bad : p.state = 3 → 5 < p.errors
structure PInv (l : List Pth) (pr : Int) (m : Nat) : Prop where
  len : l.length = 3
  ok : ∀ p ∈ l, POk p
  hd : ∀ p ∈ l, Hd p m
  prim : ∃ (k : Nat) (p : Pth), pr = k ∧ l[k]? = some p ∧ p.state ≠ 1
/-- What one act makes of a path. -/
structure Turn (p q : Pth) (good : Bool) (m : Nat) : Prop where
  ok : POk q
  hd : Hd q (m + 1)
  keep : p.state ≠ 1 → q.state ≠ 1
  new : p.state = 1 → q.state = 1 ∨ good = true
theorem Hd.up {p : Pth} {m : Nat} (h : Hd p m) : Hd p (m + 1) := ⟨h.st, ⟨h.er.1, by have := h.er.2; omega⟩, h.bad⟩
theorem PInv.turn {l : List Pth} {pr : Int} {m k : Nat} {p q : Pth} {good : Bool} (h : PInv l pr m) (hp : l[k]? = some p) (t : Turn p q good m) : PInv (l.set k q) pr (m + 1) := by
  have hk := (List.getElem?_eq_some_iff.1 hp).1
  refine ⟨by rw [List.length_set, h.len], set_ok h.ok t.ok, fun x hx => ?_, ?_⟩
  · rcases List.mem_or_eq_of_mem_set hx with h1 | rfl
    · exact (h.hd x h1).up
    · exact t.hd
  · obtain ⟨j, y, e, hy, hs⟩ := h.prim
    by_cases hj : k = j
    · subst hj
      rw [hp] at hy
      injection hy with hy
      subst hy
      exact ⟨k, q, e, by rw [List.getElem?_set_self hk], t.keep hs⟩
    · exact ⟨j, y, e, by rw [List.getElem?_set_ne hj]; exact hy, hs⟩
theorem PInv.first {l : List Pth} {pr : Int} {m k : Nat} {p : Pth} (h : PInv l pr m) (hp : l[k]? = some p) (hs : p.state ≠ 1) : PInv l k m := ⟨h.len, h.ok, h.hd, k, p, rfl, hp, hs⟩
theorem PInv.start : PInv l3 0 0 := ⟨rfl, ok3, fun p hp => by
    simp only [l3, List.mem_cons, List.not_mem_nil, or_false] at hp
    rcases hp with rfl | rfl | rfl
    · exact ⟨.inr (.inl rfl), ⟨by show (0:Int) ≤ 0; omega, by show (0:Int) ≤ 0; omega⟩, fun h => absurd h (by decide)⟩
    · exact ⟨.inl rfl, ⟨by show (0:Int) ≤ 0; omega, by show (0:Int) ≤ 0; omega⟩, fun h => absurd h (by decide)⟩
    · exact ⟨.inl rfl, ⟨by show (0:Int) ≤ 0; omega, by show (0:Int) ≤ 0; omega⟩, fun h => absurd h (by decide)⟩, 0, _, rfl, rfl, by decide⟩
theorem Turn.same {p : Pth} {m : Nat} (hok : POk p) (h : Hd p m) : Turn p p false m := ⟨hok, h.up, id, .inl⟩
theorem Turn.beat {p : Pth} {m : Nat} (nonce now : Int) (hok : POk p) (h : Hd p m) : Turn p (beat nonce now p) false m := ⟨beat_ok nonce now p hok, ⟨h.up.st, h.up.er, h.up.bad⟩, id, .inl⟩
theorem Turn.heard {p : Pth} {m : Nat} (hok : POk p) (h : Hd p m) : Turn p (heard p) false m := by
  have hs : (Pth.heard p).state = if p.state = 3 then 2 else p.state := rfl
  have h1 := h.st
  refine ⟨heard_ok p hok, ⟨?_, ⟨by show (0:Int) ≤ 0; omega, by show (0:Int) ≤ _; omega⟩, ?_⟩, ?_, ?_⟩
  · rw [hs]; split <;> omega
  · rw [hs]; split <;> omega
  · rw [hs]; split <;> omega
  · rw [hs]; split <;> omega
theorem Turn.ack {p : Pth} {m : Nat} (now : Int) (hok : POk p) (h : Hd p m) : Turn p (Pth.heard (answered now p)) true m ∧ (Pth.heard (answered now p)).state = 2 ∧ (Pth.heard (answered now p)).errors = 0 := by
  have h2 : (answered now p).state = if p.state = 1 then 2 else p.state := rfl
  have hs : (Pth.heard (answered now p)).state = if (answered now p).state = 3 then 2 else (answered now p).state := rfl
  have h1 := h.st
  have h3 : (Pth.heard (answered now p)).state = 2 := by
    rw [hs, h2]
    rcases h1 with h1 | h1 | h1 <;> rw [h1] <;> rfl
  refine ⟨⟨heard_ok _ (answered_ok now p hok), ⟨.inr (.inl h3), ⟨by show (0:Int) ≤ 0; omega, by show (0:Int) ≤ _; omega⟩, ?_⟩, ?_, fun _ => .inr rfl⟩, h3, rfl⟩
  · rw [h3]; omega
  · rw [h3]; omega
theorem Turn.fail {p : Pth} {m : Nat} (hm : m ≤ 1000) (hok : POk p) (h : Hd p m) : Turn p (failed p) false m := by
  obtain ⟨j, hj⟩ := Int.eq_ofNat_of_zero_le h.er.1
  have hjm : j ≤ m := by have := h.er.2; omega
  have he : (failed p).errors = j + 1 := failed_errors p j (by omega) hj
  have hs := failed_state p
  rw [show w64 (p.errors + 1) = j + 1 by rw [hj]; exact w64_one j (by omega)] at hs
  have h1 := h.st
  have hb := h.bad
  refine ⟨failed_ok p hok, ⟨?_, ⟨by omega, by omega⟩, ?_⟩, ?_, ?_⟩
  · rw [hs]; split <;> omega
  · rw [hs, he]; split <;> omega
  · rw [hs]; split <;> omega
  · rw [hs]; split <;> omega
theorem PInv.cho {l : List Pth} {pr : Int} {m : Nat} (h : PInv l pr m) (no : Int) : ∃ (k : Nat) (q : Pth), chooseF l pr no = k ∧ k < 3 ∧ l[k]? = some q ∧ q.state ≠ 1 := by
  have hlt : ∀ {k : Nat} {q : Pth}, l[k]? = some q → k < 3 := fun hk => h.len ▸ (List.getElem?_eq_some_iff.1 hk).1
  unfold chooseF
  cases hf : (ordL l.length pr).find? (cand l no) with
  | some x =>
    have hx := List.find?_some hf
    unfold cand at hx
    rw [Bool.and_eq_true] at hx
    obtain ⟨k, q, rfl, hk, hq⟩ := act_is hx.2
    exact ⟨k, q, rfl, hlt hk, hk, by omega⟩
  | none =>
    by_cases ha : act l no = true
    · obtain ⟨k, q, rfl, hk, hq⟩ := act_is ha
      exact ⟨k, q, if_pos ha, hlt hk, hk, by omega⟩
    · obtain ⟨k, q, rfl, hk, hq⟩ := h.prim
      have hin : isIn (k : Int) l.length = true := isIn_iff.2 ⟨by omega, by have := h.len; have := hlt hk; omega⟩
      exact ⟨k, q, by rw [if_neg ha, if_pos hin], hlt hk, hk, hq⟩
theorem ack_at {l : List Pth} {k : Nat} {p : Pth} (nonce now : Int) (hp : l[k]? = some p) : ackB k nonce now l = fits nonce now p := by
  have hk := (List.getElem?_eq_some_iff.1 hp).1
  unfold ackB
  rw [isIn_iff.2 ⟨by omega, by omega⟩, Int.toNat_natCast, hp]
  rfl
theorem ackL_yes {l : List Pth} {k : Nat} {p : Pth} {nonce now : Int} (hp : l[k]? = some p) (h : fits nonce now p = true) : ackL k nonce now l = l.set k (Pth.heard (answered now p)) := by
  have hk := (List.getElem?_eq_some_iff.1 hp).1
  unfold ackL
  rw [ack_at nonce now hp, if_pos h, chg_at (answered now) hp, chg_set heard hk]
theorem ackL_no {l : List Pth} {k : Nat} {p : Pth} {nonce now : Int} (hp : l[k]? = some p) (h : fits nonce now p = false) : ackL k nonce now l = l.set k p := by
  unfold ackL
  rw [ack_at nonce now hp, h, if_neg (by simp)]
  exact set_it hp
theorem prim_at {l : List Pth} {k : Nat} {p : Pth} (al : Int) (hp : l[k]? = some p) : primF al k l = if p.state = 1 then ((11, [], 0, 0) : Int × List Pth × Int × Int) else (0, l, (k : Int), al) := by
  have hk := (List.getElem?_eq_some_iff.1 hp).1
  unfold primF
  rw [if_neg (by rw [isIn_iff.2 ⟨by omega, by omega⟩]; simp), Int.toNat_natCast, hp]
  by_cases h : p.state = 1
  · simp [h]
  · simp [h]
theorem fits_yes {p : Pth} {nonce now : Int} (h1 : p.sent = 1) (h2 : p.nonce = nonce) (h3 : p.beaten ≤ now) : fits nonce now p = true := by simp [fits, h1, h2, h3]
theorem fits_no {p : Pth} {nonce now : Int} (h : ¬ (p.sent = 1 ∧ p.nonce = nonce ∧ p.beaten ≤ now)) : fits nonce now p = false := by
  cases hf : fits nonce now p with
  | false => rfl
  | true => exact absurd (by simpa [fits] using hf) h
end Go.Proofs.Ytdfpfnofaiobgaa
