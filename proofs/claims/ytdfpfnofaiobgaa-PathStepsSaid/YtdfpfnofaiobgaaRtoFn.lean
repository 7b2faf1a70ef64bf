/- The numbers that a timer of the program holds, in plain Lean: no program in sight. -/
namespace Go.Proofs.Ytdfpfnofaiobgaa.Rto

/-- A number held within bounds. -/
def cl (x a b : Int) : Int := max a (min x b)
theorem cl_lo (x a b : Int) : a ≤ cl x a b := by unfold cl; omega
theorem cl_hi (x a b : Int) (h : a ≤ b) : cl x a b ≤ b := by unfold cl; omega
theorem cl_id (x a b : Int) (h1 : a ≤ x) (h2 : x ≤ b) : cl x a b = x := by unfold cl; omega

/-- How long to wait. -/
def wt (s v : Int) : Int := cl (cl s 0 1048576 + 4 * cl v 0 1048576) 1000 60000
/-- What a sample makes of the two numbers. -/
def smS (k : Bool) (s x : Int) : Int := if k = true then (7 * cl s 0 1048576 + cl x 0 60000) / 8 else cl x 0 60000
def smV (k : Bool) (s v x : Int) : Int :=
  if k = true then (3 * cl v 0 1048576 + max (cl s 0 1048576 - cl x 0 60000) (cl x 0 60000 - cl s 0 1048576)) / 4 else cl x 0 60000 / 2
def bkR (r : Int) : Int := cl (2 * cl r 0 60000) 1000 60000
def gdR (k : Bool) (s v : Int) : Int := if k = true then wt s v else 1000

theorem wt_lo (s v : Int) : 1000 ≤ wt s v := cl_lo _ _ _
theorem wt_hi (s v : Int) : wt s v ≤ 60000 := cl_hi _ _ _ (by omega)
theorem bkR_lo (r : Int) : 1000 ≤ bkR r := cl_lo _ _ _
theorem bkR_hi (r : Int) : bkR r ≤ 60000 := cl_hi _ _ _ (by omega)
theorem bkR_up (r : Int) (h : r ≤ 60000) : r ≤ bkR r := by unfold bkR cl; omega
theorem bkR_eq (r : Int) (h0 : 1000 ≤ r) (h : r ≤ 60000) : bkR r = min (2 * r) 60000 := by unfold bkR cl; omega
theorem gdR_lo (k : Bool) (s v : Int) : 1000 ≤ gdR k s v := by unfold gdR; split; exact wt_lo _ _; omega
theorem gdR_hi (k : Bool) (s v : Int) : gdR k s v ≤ 60000 := by unfold gdR; split; exact wt_hi _ _; omega
theorem smS_lo (k : Bool) (s x : Int) : 0 ≤ smS k s x := by unfold smS cl; split <;> omega
theorem smS_hi (k : Bool) (s x : Int) : smS k s x ≤ 1048576 := by unfold smS cl; split <;> omega
theorem smV_lo (k : Bool) (s v x : Int) : 0 ≤ smV k s v x := by unfold smV cl; split <;> omega
theorem smV_hi (k : Bool) (s v x : Int) : smV k s v x ≤ 1048576 := by unfold smV cl; split <;> omega

/-- With samples that are all the same what is reckoned never goes away from them. -/
theorem near (s r : Int) (h0 : 0 ≤ s) (h1 : s ≤ 60000) (h2 : 0 ≤ r) (h3 : r ≤ 60000) :
    max (smS true s r - r) (r - smS true s r) ≤ max (s - r) (r - s) := by unfold smS cl; simp; omega
theorem near_lo (s r a : Int) (h0 : 0 ≤ s) (h1 : s ≤ 60000) (h2 : 0 ≤ r) (h3 : r ≤ 60000) (ha : a ≤ s) (hb : a ≤ r) : a ≤ smS true s r := by unfold smS cl; simp; omega
theorem near_hi (s r a : Int) (h0 : 0 ≤ s) (h1 : s ≤ 60000) (h2 : 0 ≤ r) (h3 : r ≤ 60000) (ha : s ≤ a) (hb : r ≤ a) : smS true s r ≤ a := by unfold smS cl; simp; omega
theorem first_is (r : Int) (s : Int) (h2 : 0 ≤ r) (h3 : r ≤ 60000) : smS false s r = r := by unfold smS cl; simp; omega
theorem wt_ge (s v : Int) (h0 : 0 ≤ s) (h1 : s ≤ 60000) : min (max s 1000) 60000 ≤ wt s v := by unfold wt cl; omega
/-- An answer that takes longer never makes what is reckoned less. -/
theorem more (s a b : Int) : smS true s (min a b) ≤ smS true s (max a b) := by unfold smS cl; simp; omega
/-- Six times in vain. -/
theorem six (r : Int) (h : 1000 ≤ r) (h' : r ≤ 60000) : bkR (bkR (bkR (bkR (bkR (bkR r))))) = 60000 := by unfold bkR cl; omega
theorem ex1 : smS false 0 500 = 500 ∧ smV false 0 0 500 = 250 ∧ wt 500 250 = 1500 ∧ smS true 500 100 = 450 ∧ smV true 500 250 100 = 287 ∧ wt 450 287 = 1598 := by decide
end Go.Proofs.Ytdfpfnofaiobgaa.Rto
