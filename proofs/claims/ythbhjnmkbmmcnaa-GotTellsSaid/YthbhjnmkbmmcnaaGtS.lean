/- The sort of numbers that go round: how two of them are compared, and slices.SortFunc over a row of the call's own. -/
import Derived.Test.YthbhjnmkbmmcnaaSrtL
import Derived.Test.YthbhjnmkbmmcnaaGo
import Derived.Test.YthbhjnmkbmmcnaaSerF
import Derived.Test.YthbhjnmkbmmcnaaOka
namespace Go.Proofs.Ythbhjnmkbmmcnaa
open Go.RowKit Go.Sort Go.Lib
open Go.Proofs.Ythbhjnmkbmmcnaa.Ser
set_option linter.unusedVariables false

/-- How two numbers stand, as the comparison tells it. -/
def cfS (fr x y : Int) : Int := Lib.compareInt (kf fr x) (kf fr y)
theorem ltS (fr x y : Int) : ltOf (cfS fr) x y = decide (kf fr x < kf fr y) := by
  unfold ltOf cfS Lib.compareInt
  by_cases h1 : kf fr x < kf fr y
  · simp [h1]
  · by_cases h2 : kf fr y < kf fr x <;> simp [h1, h2]
theorem swoS (fr : Int) : SWO (ltOf (cfS fr)) where
  irrefl x := by rw [ltS]; simp
  trans x y z h1 h2 := by rw [ltS] at *; simp at *; omega
  ntrans x y z h1 h2 := by rw [ltS] at *; simp at *; omega
theorem nan_any (x : Int) (w : World) : Calls Try.prog 50 #[.int .u32 x] w fun e w' => e = .returned (.bool false) ∧ w = w' := by
  go_enter Try.func50, Try.ntmps50
  go_wp2
  go_ret
  exact ⟨by simp, rfl⟩
theorem cmp_any (x y : Int) (w : World) : Calls Try.prog 40 #[.int .u32 x, .int .u32 y] w fun e w' => e = .returned (.int .i64 (Lib.compareInt x y)) ∧ w = w' := by
  unfold Lib.compareInt
  by_cases h1 : x < y
  · go_enter Try.func40, Try.ntmps40
    go_wp2_with (go_at_call 50; refine (nan_any _ _).mono ?_; rintro e w' ⟨rfl, rfl⟩)
    go_ret
    exact ⟨by simp [h1], rfl⟩
  · by_cases h2 : y < x
    · go_enter Try.func40, Try.ntmps40
      go_wp2_with (go_at_call 50; refine (nan_any _ _).mono ?_; rintro e w' ⟨rfl, rfl⟩)
      go_ret
      exact ⟨by simp [h1, h2], rfl⟩
    · go_enter Try.func40, Try.ntmps40
      go_wp2_with (go_at_call 50; refine (nan_any _ _).mono ?_; rintro e w' ⟨rfl, rfl⟩)
      go_ret
      exact ⟨by simp [h1, h2], rfl⟩
theorem less_any (x y fr : Int) (b : Nat) (w : World) (hb : w.cell? ⟨b, 0, none⟩ = some (.int .u32 fr)) :
    Calls Try.prog 53 #[.int .u32 x, .int .u32 y, .pointer (some ⟨b, 0, none⟩)] w fun e w' => e = .returned (.int .i64 (cfS fr x y)) ∧ w = w' := by
  have hc := cmp_any (kf fr x) (kf fr y) w
  unfold cfS
  have e1 : IntKind.u32.wrap (x - fr) = kf fr x := by rw [IntKind.wrap_u32]; rfl
  have e2 : IntKind.u32.wrap (y - fr) = kf fr y := by rw [IntKind.wrap_u32]; rfl
  generalize Lib.compareInt (kf fr x) (kf fr y) = r at hc ⊢
  go_enter Try.func53, Try.ntmps53
  go_wp2_with fail
  refine hc.mono ?_
  rintro e w' ⟨rfl, rfl⟩
  go_wp2
  go_ret
  exact ⟨rfl, rfl⟩

theorem holds_of_blockU {w : World} {g : Nat} {cur : Array Value} {e : TypeId} {ss : List Int} (hb : w.heap[g]? = some (.cells cur e (0, 0))) (ht : cur.toList.take ss.length = ss.map (Value.int .u32)) : Holds (Value.int .u32) w g 0 ss.toArray := by
  intro j hj
  have hj' : j < ss.length := by simpa using hj
  refine ⟨?_, by simp [World.frozen?, hb]⟩
  have h1 : (cur.toList.take ss.length)[j]? = (ss.map (Value.int .u32))[j]? := by rw [ht]
  rw [List.getElem?_take_of_lt hj'] at h1
  simp only [World.cell?, hb, Nat.zero_add]
  simp only [Option.isSome_none, Bool.false_eq_true, if_false]
  rw [← Array.getElem?_toList, h1]
  simp [hj']
theorem heap_sortedU {w : World} {g n : Nat} {os : Array Obj} {cur : Array Value} {e : TypeId} {fr : Nat × Nat} (d : Array Int) (hb : w.heap[g]? = some (.cells cur e fr)) :
    (sortWorld (Value.int .u32) w g 0 n d os).heap[g]? = some (.cells (putCells (Value.int .u32) 0 d cur) e fr) := by
  have hg : g < w.heap.size := (Array.getElem?_eq_some_iff.1 hb).1
  unfold sortWorld
  rw [heap_grow_old _ _ (by simpa using hg)]
  simp [putRow, mapBlock, Sort.ahead, Array.getElem?_modify, hb, onCells]
theorem grownBy_sortedU {w : World} {g n : Nat} {os : Array Obj} (d : Array Int) : w.grownBy (sortWorld (Value.int .u32) w g 0 n d os) (some g) := by
  unfold sortWorld
  refine ⟨rfl, rfl, rfl, by simp, fun k hk hne => ?_⟩
  rw [heap_grow_old _ _ (by simpa using hk)]
  have : g ≠ k := fun e => hne (by rw [e])
  simp [putRow, mapBlock, Sort.ahead, Array.getElem?_modify, this]
theorem take_putCellsU (cur : Array Value) (ts : List Int) (h : ts.length ≤ cur.size) : (putCells (Value.int .u32) 0 ts.toArray cur).toList.take ts.length = ts.map (Value.int .u32) := by
  apply List.ext_getElem?
  intro j
  by_cases hj : j < ts.length
  · rw [List.getElem?_take_of_lt hj, Array.getElem?_toList]
    simp [putCells, hj, show j < cur.size by omega]
  · rw [List.getElem?_take_eq_none (by omega), List.getElem?_eq_none (by simp; omega)]

/-- What a sort by this comparison leaves. -/
theorem sorted_rows {fr : Int} {xs : List Int} {d' : Array Int} (hp : PermIn 0 xs.toArray.size xs.toArray d') (hs : SortedIn (ltOf (cfS fr)) 0 xs.toArray.size d') : d'.toList.Perm xs ∧ UpE fr d'.toList := by
  obtain ⟨h1, _, h2⟩ := hp
  have e1 : d'.extract 0 xs.toArray.size = d' := by rw [← h1]; simp
  rw [e1] at h2
  refine ⟨by simpa using h2, ?_⟩
  unfold UpE
  rw [List.pairwise_iff_getElem]
  intro i j hi hj hij
  have hj' : j < xs.toArray.size := by rw [← h1]; simpa using hj
  have hi' : i < d'.size := by simpa using hi
  have hj2 : j < d'.size := by simpa using hj
  have := hs i j (Nat.zero_le _) hij hj'
  rw [ltS, getElem!_pos d' j hj2, getElem!_pos d' i hi'] at this
  simp only [decide_eq_false_iff_not] at this
  simp only [Array.getElem_toList]
  omega

/-- slices.SortFunc, over a row of the call's own, by how far numbers are above one. -/
theorem sort_w (A : Option Addr) (n c b t : Nat) (fr : Int) (xs : List Int) (w : World) (hS : Sat w (Bs [.row A n c 22 1 (flat (ic .u32) xs)]) [.row A n c 22 1 (flat (ic .u32) xs)] w)
    (hl : xs.length = n) (hn : n ≤ 1000000) (hb : w.heap[b]? = some (.cells #[.int .u32 fr] t (0, 0))) (hne : ∀ g, A = some ⟨g, 0, none⟩ → b ≠ g) :
    Calls Try.prog 52 #[.slice A n c, .func (.func 53) #[] #[.pointer (some ⟨b, 0, none⟩)]] w
      fun e w' => ∃ v N, e = .returned v ∧ (∃ ys, v = .tuple #[] ∧ N = [.row A n c 22 1 (flat (ic .u32) ys)] ∧ ys.Perm xs ∧ UpE fr ys) ∧ Mod (Bs [.row A n c 22 1 (flat (ic .u32) xs)]) N w w' := by
  by_cases h0 : n = 0
  · subst h0
    obtain rfl : xs = [] := List.eq_nil_of_length_eq_zero hl
    have h := AnyF.slices_SortFunc_none (P := Try.prog) (ρ := Ythbhjnmkbmmcnaa.sortL_ren) { Ythbhjnmkbmmcnaa.sortL with } A c (.func (.func 53) #[] #[.pointer (some ⟨b, 0, none⟩)]) w
    change Calls Try.prog 52 _ _ _ at h
    refine h.mono ?_
    rintro e w' ⟨rfl, rfl⟩
    exact ⟨_, _, rfl, ⟨[], rfl, rfl, .refl _, .nil⟩, hS.toMod (by simp [Item.mine])⟩
  · have hrow := hS.holds _ (List.mem_singleton.2 rfl)
    obtain ⟨g, rfl⟩ : ∃ g, A = some ⟨g, 0, none⟩ := Item.row_shape hrow (by omega)
    obtain ⟨cur, hg, hmc, hcm, hsz, hcur⟩ := row_block hrow
    have hgl : g < w.heap.size := (Array.getElem?_eq_some_iff.1 hg).1
    have hbl : b < w.heap.size := (Array.getElem?_eq_some_iff.1 hb).1
    have hbg := hne g rfl
    have hH : Holds (Value.int .u32) w g 0 xs.toArray := holds_of_blockU hg (by rw [hl, ← flat_ic, ← hcur, Nat.mul_one])
    have hcmp : CmpReads Try.prog 53 #[.pointer (some ⟨b, 0, none⟩)] (Value.int .u32) (cfS fr) g 0 xs.toArray.size w := fun m os dk hdk x y => by
      have hc : (sortWorld (Value.int .u32) w g 0 m dk os).cell? ⟨b, 0, none⟩ = some (.int .u32 fr) := by
        unfold sortWorld
        rw [cell?_grow _ _ _ (by simpa using hbl), cell?_putRow_other _ _ _ _ _ _ (Or.inl hbg)]
        simp [World.cell?, Sort.ahead, hb]
      exact (less_any x y fr b _ hc).mono fun e w' ⟨h1, h2⟩ => ⟨h1, 0, h2.symm⟩
    have h := Any.slices_SortFunc Ythbhjnmkbmmcnaa.sortL (Value.int .u32) (fun _ => rfl) (cfS fr) (swoS fr) 53 #[.pointer (some ⟨b, 0, none⟩)] g 0 c xs.toArray w (enters_of Try.func53 (by kernel_rfl) rfl) hcmp.lays hH hgl (by simp; omega)
    have hsz' : xs.toArray.size = n := by simpa using hl
    rw [hsz'] at h
    change Calls Try.prog 52 _ _ _ at h
    refine h.mono ?_
    rintro e w' ⟨rfl, d', m, os, hp, hs, rfl⟩
    rw [← hsz'] at hp hs
    obtain ⟨hp', hs'⟩ := sorted_rows hp hs
    have hdl : d'.toList.length = n := by rw [hp'.length_eq, hl]
    have hgr := grownBy_sortedU (w := w) (g := g) (n := m) (os := os) d'
    have hsat := hS.turn (i := 0) (it' := .row (some ⟨g, 0, none⟩) n c 22 1 (flat (ic .u32) d'.toList)) rfl rfl (fun b' hb' => .inl hb') (w' := sortWorld (Value.int .u32) w g 0 m d' os)
      ⟨by rw [flat_len (ic_len .u32), hdl], .inr ⟨g, c, _, rfl, Nat.zero_le _, heap_sortedU d' hg, hmc, hcm, by simp [putCells, hsz], by
        rw [Nat.mul_one, flat_ic]
        have := take_putCellsU cur d'.toList (by rw [hdl, hsz]; omega)
        rw [hdl] at this
        simpa using this⟩⟩ (fun k hk hne' => hgr.block k hk (fun e => hne' (by rw [e]; rfl))) hgr.size hgr.os hgr.tape hgr.output
    exact ⟨_, _, rfl, ⟨d'.toList, rfl, rfl, hp', hs'⟩, hsat.toMod (by simp [Item.mine])⟩
end Go.Proofs.Ythbhjnmkbmmcnaa
