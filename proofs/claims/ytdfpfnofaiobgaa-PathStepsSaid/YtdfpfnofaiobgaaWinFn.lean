/- The numbers of a window, in plain Lean: no program in sight. -/
namespace Go.Proofs.Ytdfpfnofaiobgaa.Win

def wh (n least : Int) : Int := max least (min n 1073741824)
theorem wh_lo (n least : Int) : least ≤ wh n least := by unfold wh; omega
theorem wh_hi (n least : Int) (h : least ≤ 1073741824) : wh n least ≤ 1073741824 := by unfold wh; omega
theorem wh_id (n least : Int) (h : least ≤ n) (h' : n ≤ 1073741824) : wh n least = n := by unfold wh; omega
def half (c : Int) : Int := max (wh c 1500 / 2) 6000
theorem half_lo (c : Int) : 6000 ≤ half c := by unfold half; omega
theorem half_hi (c : Int) : half c ≤ 536870912 := by unfold half wh; omega
/-- What bytes that came make of a window whose numbers are within bounds. -/
def akC (mc ms mp b o : Int) (mv : Bool) : Int :=
  if mv = false then mc else if mc ≤ ms then (if mc ≤ o then mc + min b 1500 else mc) else if mc ≤ o ∧ mc ≤ mp + b then mc + 1500 else mc
def akP (mc ms mp b o : Int) (mv : Bool) : Int :=
  if mv = false then mp else if mc ≤ ms then 0 else if b = o then 0 else if mc ≤ o ∧ mc ≤ mp + b then mp + b - mc else mp + b
theorem akC_f (mc ms mp b o : Int) : akC mc ms mp b o false = mc := by simp [akC]
theorem akP_f (mc ms mp b o : Int) : akP mc ms mp b o false = mp := by simp [akP]
theorem akC_t (mc ms mp b o : Int) : akC mc ms mp b o true = if mc ≤ ms then (if mc ≤ o then mc + min b 1500 else mc) else if mc ≤ o ∧ mc ≤ mp + b then mc + 1500 else mc := by simp [akC]
theorem akP_t (mc ms mp b o : Int) : akP mc ms mp b o true = if mc ≤ ms then 0 else if b = o then 0 else if mc ≤ o ∧ mc ≤ mp + b then mp + b - mc else mp + b := by simp [akP]
end Go.Proofs.Ytdfpfnofaiobgaa.Win
