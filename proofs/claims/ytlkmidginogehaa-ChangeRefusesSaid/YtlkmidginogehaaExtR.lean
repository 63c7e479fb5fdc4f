/- What the printed functions of seat B compute, in plain Lean: what made makes; a change and its inverse. -/
import Derived.Test.YtlkmidginogehaaExtQ
set_option linter.unusedVariables false
set_option linter.unusedSimpArgs false
namespace Go.Proofs.Ytlkmidginogehaa.Plain
open Go.RowKit Go.Proofs.YtlkmidginogehaaW.PrintWords Go.Proofs.YtlkmidginogehaaW.PrintLast Go.Proofs.YtlkmidginogehaaW.PrintMore
open Go.Proofs.Ytlkmidginogehaa.MChange Go.Proofs.Ytlkmidginogehaa.Ext

/-- the change that law21.made makes of c in w -/
def mk1 (w : List ByteArray) (c : S40) : S40 :=
  let a := (c.f0 % ((w.length : Int) + 1)).toNat
  ⟨a, (w.drop a).take (min c.f1.length (w.length - a)), c.f2⟩
def madeL : List ByteArray → List S40 → List S40
  | _, [] => []
  | w, c :: cs => match applyOne w (mk1 w c) with
    | none => madeL w cs
    | some v => mk1 w c :: madeL v cs
theorem mk1_len (w : List ByteArray) (c : S40) : (mk1 w c).f1.length ≤ c.f1.length ∧ total (mk1 w c).f1 ≤ total w ∧ (mk1 w c).f2 = c.f2 := by
  refine ⟨?_, ?_, rfl⟩
  · show (List.take _ _).length ≤ _
    rw [List.length_take]; omega
  · exact Nat.le_trans (total_take _ _) (total_drop_le _ _)
theorem made_ok (cs : List S40) : ∀ w, ∃ v, applyAll w (madeL w cs) = some v := by
  induction cs with
  | nil => exact fun w => ⟨w, rfl⟩
  | cons c cs ih =>
    intro w
    unfold madeL
    cases h : applyOne w (mk1 w c) with
    | none => exact ih w
    | some v =>
      obtain ⟨u, hu⟩ := ih v
      refine ⟨u, ?_⟩
      show applyAll w (mk1 w c :: madeL v cs) = some u
      rw [applyAll, h]; exact hu
theorem made_len (cs : List S40) : ∀ w, (∀ c ∈ cs, c.f1.length ≤ 40 ∧ c.f2.length ≤ 40 ∧ total c.f2 ≤ 1200) → (madeL w cs).length ≤ cs.length ∧ ∀ d ∈ madeL w cs, (d.f1.length ≤ 40 ∧ total d.f1 ≤ total w + 1200 * cs.length) ∧ d.f2.length ≤ 40 ∧ total d.f2 ≤ 1200 := by
  induction cs with
  | nil => intro w _; exact ⟨Nat.le_refl _, fun d hd => by cases hd⟩
  | cons c cs ih =>
    intro w hc
    have hcc := hc c (List.mem_cons_self ..)
    have hcs := fun d hd => hc d (List.mem_cons_of_mem _ hd)
    unfold madeL
    cases h : applyOne w (mk1 w c) with
    | none =>
      obtain ⟨h1, h2⟩ := ih w hcs
      refine ⟨by show (madeL w cs).length ≤ _; rw [List.length_cons]; omega, fun d hd => ?_⟩
      have := h2 d hd
      rw [List.length_cons]
      omega
    | some v =>
      obtain ⟨h1, h2⟩ := ih v hcs
      have hv := (applyOne_len h).2
      have hm := mk1_len w c
      rw [hm.2.2] at hv
      refine ⟨by show (mk1 w c :: madeL v cs).length ≤ _; rw [List.length_cons, List.length_cons]; omega, fun d hd => ?_⟩
      rw [List.length_cons]
      rcases List.mem_cons.1 (show d ∈ mk1 w c :: madeL v cs from hd) with rfl | hd
      · rw [hm.2.2]; omega
      · have := h2 d hd; omega
theorem inv1_inv1 (c : S40) : inv1 (inv1 c) = c := rfl
theorem inv_inv (cs : List S40) : (cs.reverse.map inv1).reverse.map inv1 = cs := by
  rw [List.map_reverse, List.map_map, show (inv1 ∘ inv1) = id from funext inv1_inv1, List.map_id, List.reverse_reverse]
theorem applyOne_inv {l v : List ByteArray} {c : S40} (hl : l ≠ []) (h : applyOne l c = some v) : applyOne v (inv1 c) = some l ∧ v ≠ [] := by
  obtain ⟨⟨b1, b2, b3, b4, b5⟩, hv⟩ := applyOne_some h
  obtain ⟨at_, old, new⟩ := c
  simp only [inv1] at *
  obtain ⟨a, rfl⟩ : ∃ a : Nat, at_ = a := ⟨at_.toNat, by omega⟩
  rw [Int.toNat_natCast] at *
  have hl0 : 0 < l.length := List.length_pos_iff.2 hl
  have t1 : (l.take a).length = a := by rw [List.length_take]; omega
  have hvl : v.length = a + new.length + (l.length - (a + old.length)) := by rw [hv, List.length_append, List.length_append, t1, List.length_drop]
  have e1 : v.take a = l.take a := by rw [hv, List.append_assoc, List.take_left' t1]
  have e2 : v.drop a = new ++ l.drop (a + old.length) := by rw [hv, List.append_assoc, List.drop_left' t1]
  have e3 : v.drop (a + new.length) = l.drop (a + old.length) := by rw [← List.drop_drop, e2, List.drop_left' rfl]
  have e4 : l = l.take a ++ old ++ l.drop (a + old.length) := by
    have h1 := List.take_append_drop a l
    have h2 := List.take_append_drop old.length (l.drop a)
    rw [b4, List.drop_drop] at h2
    rw [List.append_assoc, h2, h1]
  refine ⟨?_, fun e => by rw [e] at hvl; simp only [List.length_nil] at hvl; omega⟩
  refine (applyOne_yes v ⟨a, new, old⟩ ⟨by simp only []; omega, by simp only []; omega, by simp only []; omega, ?_, by simp only []; omega⟩).trans ?_
  · show (v.drop ((a : Int)).toNat).take new.length = new
    rw [Int.toNat_natCast, e2, List.take_left' rfl]
  · show some (v.take ((a : Int)).toNat ++ old ++ v.drop (((a : Int)).toNat + new.length)) = some l
    rw [Int.toNat_natCast, e1, e3, ← e4]
theorem applyAll_append (cs ds : List S40) : ∀ l, applyAll l (cs ++ ds) = (applyAll l cs).bind (fun v => applyAll v ds) := by
  induction cs with
  | nil => intro l; rfl
  | cons c cs ih =>
    intro l
    show (applyOne l c).bind _ = ((applyOne l c).bind _).bind _
    cases applyOne l c with
    | none => rfl
    | some v => exact ih v
theorem applyAll_inv (cs : List S40) : ∀ l v, l ≠ [] → applyAll l cs = some v → applyAll v (cs.reverse.map inv1) = some l := by
  induction cs with
  | nil => intro l v _ h; obtain rfl := Option.some.inj h; rfl
  | cons c cs ih =>
    intro l v hl h
    rw [applyAll] at h
    cases h1 : applyOne l c with
    | none => rw [h1] at h; cases h
    | some u =>
      rw [h1] at h
      obtain ⟨g1, g2⟩ := applyOne_inv hl h1
      rw [List.reverse_cons, List.map_append, applyAll_append, ih u v g2 h]
      show (applyOne u (inv1 c)).bind _ = _
      rw [g1]; rfl
theorem bdl_light {l : List ByteArray} {cs : List S40} (hl : l.length ≤ 1000) (h : cs.length ≤ 12) (hc : ∀ c ∈ cs, c.f1.length ≤ 40 ∧ c.f2.length ≤ 40) : BdL l cs :=
  ⟨by omega, fun c h => by have := hc c h; omega⟩
theorem bdt_light {l : List ByteArray} {cs : List S40} (hl : total l ≤ 100000) (h : cs.length ≤ 12) (hc : ∀ c ∈ cs, total c.f2 ≤ 1200) : BdT l cs :=
  ⟨by omega, fun c h => by have := hc c h; omega⟩
theorem applyAll_len (cs : List S40) : ∀ l v, BdL l cs → applyAll l cs = some v → v.length ≤ l.length + 100 * cs.length := by
  induction cs with
  | nil => intro l v _ h; obtain rfl := Option.some.inj h; simp
  | cons c cs ih =>
    intro l v hb h
    rw [applyAll] at h
    cases h1 : applyOne l c with
    | none => rw [h1] at h; cases h
    | some u =>
      rw [h1] at h
      have := ih u v (hb.next h1) h
      have h2 := (applyOne_len h1).1
      have h3 := (hb.2 c (List.mem_cons_self ..)).2
      rw [List.length_cons]; omega
end Go.Proofs.Ytlkmidginogehaa.Plain
