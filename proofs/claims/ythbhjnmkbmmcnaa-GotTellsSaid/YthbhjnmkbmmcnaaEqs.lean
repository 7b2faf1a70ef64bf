/- The test of two structs, over symbolic states. Of whatever program. -/
import Derived.Test.YthbhjnmkbmmcnaaEff
import Derived.Laws.StructEq
namespace Go.Proofs.Ythbhjnmkbmmcnaa
open Go.RowKit Go.IntWalk
set_option linter.unusedVariables false
set_option linter.unusedSectionVars false

/-- A part of a struct's cells. -/
def partV (P : Program) (t : TypeId) (cs : Array Value) (off : Nat) : Option Value :=
  bif aggD (P.underlying t) then (match P.info? t with | some i => (match cut cs.toList off i.size with | some vs => some (.agg vs.toArray) | none => none) | none => none) else (match P.underlying t with | some _ => cs.toList[off]? | none => none)
def eqFs (P : Program) (rec : TypeId → Value → Value → Option Bool) : List Field → Array Value → Array Value → Option Bool
  | [], _, _ => some true
  | f :: r, xs, ys => match partV P f.type xs f.offset, partV P f.type ys f.offset with
    | some x, some y => match rec f.type x y, eqFs P rec r xs ys with
      | some a, some b => some (a && b)
      | _, _ => none
    | _, _ => none
/-- Whether two values of a type are the same, if it is made of numbers, Bools, strings and structs of such. -/
def eqTy (P : Program) : Nat → TypeId → Value → Value → Option Bool
  | 0, _, _, _ => none
  | d + 1, t, x, y => match P.underlying t, x, y with
    | some .bool, .bool a, .bool b => some (a == b)
    | some (.int _), .int k a, .int k' b => bif sameKind k k' then some (a == b) else none
    | some .string, .string a, .string b => some (a.toList == b.toList)
    | some (.struct fs), .agg xs, .agg ys => eqFs P (eqTy P d) fs.toList xs ys
    | _, _, _ => none
/-- Nothing in the type stands in the way. -/
def eqOkB (P : Program) : Nat → TypeId → Bool
  | 0, _ => false
  | d + 1, t => match P.underlying t with
    | some (.struct fs) => !P.stoodInHeld t && fs.all fun f => !(f.name == "_") && eqOkB P d f.type
    | _ => true
theorem run_partV {P : Program} {t : TypeId} {cs : Array Value} {off : Nat} {v : Value} (h : partV P t cs off = some v) (w : World) : (part t cs off).run P w = .ok v w := by
  unfold partV at h
  cases hu : P.underlying t with
  | none => rw [hu] at h; simp [aggD] at h
  | some d =>
    rw [hu] at h
    cases ha : aggD (some d) with
    | true =>
      rw [ha] at h
      simp only [cond_true] at h
      cases hi : P.info? t with
      | none => rw [hi] at h; cases h
      | some i =>
        rw [hi] at h
        simp only at h
        cases hc : cut cs.toList off i.size with
        | none => rw [hc] at h; cases h
        | some vs =>
          rw [hc] at h
          simp only [Option.some.injEq] at h
          subst h
          have hs : (P.info? t).map (·.size) = some i.size := by rw [hi]; rfl
          have := cut_take _ _ _ _ hc
          simp only [part, Sem.run_bind, run_isAgg hu, Result.andThen_ok, ha, if_true, run_sizeOf hs, Sem.run_pure]
          congr 2
          apply Array.ext'
          simp [← this]
    | false =>
      rw [ha] at h
      simp only [cond_false] at h
      have h' : cs[off]? = some v := by simpa using h
      simp [part, run_isAgg hu, ha, h']
theorem run_eqFs {P : Program} {d m : Nat} {w : World} (rec : ∀ t x y r, eqTy P d t x y = some r → eqOkB P d t = true → (Op.equalIn (d + m) t x y).run P w = .ok r w) : ∀ (fs : List Field) (xs ys : Array Value) (r : Bool), eqFs P (eqTy P d) fs xs ys = some r →
    (fs.all fun f => !(f.name == "_") && eqOkB P d f.type) = true → (Op.eqFields (d + m) xs ys fs).run P w = .ok r w
  | [], xs, ys, r, h, _ => by simp [eqFs] at h; subst h; simp [Op.eqFields]
  | f :: fs, xs, ys, r, h, hok => by
    simp only [eqFs] at h
    simp only [List.all_cons, Bool.and_eq_true, Bool.not_eq_true'] at hok
    obtain ⟨⟨hn, hf⟩, hfs⟩ := hok
    cases hx : partV P f.type xs f.offset with
    | none => rw [hx] at h; simp at h
    | some x =>
      cases hy : partV P f.type ys f.offset with
      | none => rw [hx, hy] at h; simp at h
      | some y =>
        rw [hx, hy] at h
        simp only at h
        cases ha : eqTy P d f.type x y with
        | none => rw [ha] at h; simp at h
        | some a =>
          cases hb : eqFs P (eqTy P d) fs xs ys with
          | none => rw [ha, hb] at h; simp at h
          | some b =>
            rw [ha, hb] at h
            simp only [Option.some.injEq] at h
            subst h
            have hn' : f.name ≠ "_" := by simpa using hn
            have ih := run_eqFs rec fs xs ys b hb (by simpa using hfs)
            simp only [Op.eqFields, Sem.run_ite, hn', ne_eq, not_false_eq_true, if_true, Sem.run_bind, run_partV hx, run_partV hy, Result.andThen_ok, rec _ _ _ _ ha hf]
            cases a <;> simp [ih]
theorem run_eqTy {P : Program} {w : World} : ∀ (d m : Nat) (t : TypeId) (x y : Value) (r : Bool), eqTy P d t x y = some r → eqOkB P d t = true → (Op.equalIn (d + m) t x y).run P w = .ok r w
  | 0, m, t, x, y, r, h, _ => by simp [eqTy] at h
  | d + 1, m, t, x, y, r, h, hok => by
    simp only [eqTy] at h
    rw [show d + 1 + m = (d + m) + 1 from by omega]
    split at h
    · rename_i hu
      simp only [Option.some.injEq] at h
      subst h
      exact run_equalIn_bool w _ t _ _ hu
    · rename_i k0 k a k' b hu
      cases hk : sameKind k k' with
      | false => rw [hk] at h; simp at h
      | true =>
        rw [hk] at h
        simp only [cond_true, Option.some.injEq] at h
        subst h
        obtain rfl := sameKind_eq hk
        exact run_equalIn_int w _ t _ _ _ _ hu
    · rename_i hu
      simp only [Option.some.injEq] at h
      subst h
      exact run_equalIn_string w _ t _ _ hu
    · rename_i fs xs ys hu
      simp only [eqOkB, hu, Bool.and_eq_true, Bool.not_eq_true'] at hok
      have hfs : P.fieldsOf t = fs := by simp [Program.fieldsOf, hu]
      rw [run_equalIn_agg w _ t xs ys (by rw [hfs]; exact hu) hok.1, hfs]
      exact run_eqFs (fun t x y r => run_eqTy d m t x y r) _ _ _ _ h (by simpa using hok.2)
    · cases h
section
variable {P : Program} {w0 : World} {D : Nat → Prop} {n : Nat} [Dfr] {τ : Tm} {H : List Item} {o : Oper}
theorem Yld.eqlA {T u : Nat} {x y : Operand} {xs ys : List Value} {r : Bool} (d : Nat) (ho : o.op = .binOp .eql T x y u) (hx : evl τ x = some (.agg xs.toArray)) (hy : evl τ y = some (.agg ys.toArray)) (hg : P.eqGuardType P.depth T = false) (hk : eqOkB P d T = true) (hd : Nat.ble d 10000 = true)
    (hr : eqTy P d T (.agg xs.toArray) (.agg ys.toArray) = some r) : Yld P w0 D n o τ H (.bool r) :=
  ⟨fun a w h hw => by
    have h1 := run_eqGuard_agg (P := P) w .eql T x y xs.toArray ys.toArray hg
    have h2 := run_eql_struct (P := P) w T xs.toArray ys.toArray
    have h3 := run_eqTy (P := P) (w := w) d (10000 - d) T _ _ r hr hk
    rw [show d + (10000 - d) = 10000 from by have := Nat.le_of_ble_eq_true hd; omega] at h3
    simp only [execOp, ho, h.ev hx, h.ev hy]
    simp [h1, h2, h3]⟩
theorem Yld.neqA {T u : Nat} {x y : Operand} {xs ys : List Value} {r : Bool} (d : Nat) (ho : o.op = .binOp .neq T x y u) (hx : evl τ x = some (.agg xs.toArray)) (hy : evl τ y = some (.agg ys.toArray)) (hg : P.eqGuardType P.depth T = false) (hk : eqOkB P d T = true) (hd : Nat.ble d 10000 = true)
    (hr : eqTy P d T (.agg xs.toArray) (.agg ys.toArray) = some r) : Yld P w0 D n o τ H (.bool (!r)) :=
  ⟨fun a w h hw => by
    have h1 := run_eqGuard_agg (P := P) w .neq T x y xs.toArray ys.toArray hg
    have h2 := run_neq_struct (P := P) w T xs.toArray ys.toArray
    have h3 := run_eqTy (P := P) (w := w) d (10000 - d) T _ _ r hr hk
    rw [show d + (10000 - d) = 10000 from by have := Nat.le_of_ble_eq_true hd; omega] at h3
    simp only [execOp, ho, h.ev hx, h.ev hy]
    simp [h1, h2, h3]⟩
end
end Go.Proofs.Ythbhjnmkbmmcnaa
