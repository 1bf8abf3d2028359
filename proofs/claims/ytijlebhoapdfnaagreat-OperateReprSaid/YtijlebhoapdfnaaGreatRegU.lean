import Derived.OrdersHeld
import Derived.StillTail
import Derived.Deep.RegionHeld
import Derived.Test.YtijlebhoapdfnaaGreatProg
import Derived.Test.YtijlebhoapdfnaaGreatCore
import Derived.Deep.RegionHeld3
import Derived.Deep.RegionLaw
/- A region that draws its order, and whose one store (operation t) hits what its loads read: a condition on the world that holds till that store. -/
namespace Go.Proofs.YtijlebhoapdfnaaGreat
set_option linter.unusedSimpArgs false
open Go
set_option linter.unusedVariables false
section
variable {P : Program} {ops : Array Oper} {Q : Exit → Act → World → Prop} {md : Region.Mode} {S : World → Prop} {t : Nat}
/-- Whatever order is picked, and S holds behind each operation but the t-th. -/
def wpAnyU (P : Program) (md : Region.Mode) (ops : Array Oper) (Q : Exit → Act → World → Prop) (S : World → Prop) (t : Nat) : Nat → Array Bool → Act → World → Prop
 | 0, listed, a, w => Region.ready md ops listed = [] ∧ Q .normal a w
 | fuel + 1, listed, a, w =>
  (Region.ready md ops listed = [] → Q .normal a w) ∧
  ∀ i ∈ Region.ready md ops listed, wpOp P ops Q i (fun a' w' => (i ≠ t → S w') ∧ wpAnyU P md ops Q S t fuel (listed.setIfInBounds i true) a' w') a w
theorem wpAny_ofU : ∀ (fuel : Nat) (listed : Array Bool) (a : Act) (w : World), wpAnyU P md ops Q S t fuel listed a w → wpAny P md ops Q fuel listed a w
 | 0, _, _, _, h => h
 | fuel + 1, _, _, _, h => ⟨h.1, fun i hi => wpOp_mono (fun a' w' h' => wpAny_ofU fuel _ a' w' h'.2) (h.2 i hi)⟩
def shutB (md : Region.Mode) (ops : Array Oper) (listed : Array Bool) : Bool :=
 (List.range ops.size).all fun j => !listed.getD j false || (match ops[j]? with | some oj => oj.after.all fun e => !Region.binds md e || listed.getD e.on false | none => true)
def ShutL (md : Region.Mode) (ops : Array Oper) (listed : Array Bool) : Prop :=
 ∀ j oj, ops[j]? = some oj → listed.getD j false = true → ∀ e ∈ oj.after, Region.binds md e = true → listed.getD e.on false = true
theorem shutL_of {listed : Array Bool} (h : shutB md ops listed = true) : ShutL md ops listed := by
 intro j oj hj hl e he hb
 have hlt : j < ops.size := (Array.getElem?_eq_some_iff.1 hj).1
 have h1 := List.all_eq_true.1 h j (List.mem_range.2 hlt)
 rw [hl, hj] at h1
 have h2 : (oj.after.all fun e => !Region.binds md e || listed.getD e.on false) = true := by simpa using h1
 have h3 := Array.all_eq_true'.1 h2 e he
 rw [hb] at h3
 simpa using h3
theorem ShutL.set {listed : Array Bool} {i : Nat} (h : ShutL md ops listed) (hi : i ∈ Region.ready md ops listed) : ShutL md ops (listed.setIfInBounds i true) := by
 intro j oj hj hl e he hb
 by_cases hij : i = j
 ·
  subst hij
  obtain ⟨_, oi, hoi, hall⟩ := mem_ready.1 hi
  have : oj = oi := Option.some.inj (hj.symm.trans hoi)
  subst this
  exact getD_set_true (hall e he hb)
 ·
  rw [getD_set_ne false hij] at hl
  exact getD_set_true (h j oj hj hl e he hb)
/-- The t-th waits for i, over these. -/
def pathB (md : Region.Mode) (ops : Array Oper) (i : Nat) : Nat → List Nat → Bool
 | t, [] => Region.waitsFor md ops t i
 | t, q :: r => Region.waitsFor md ops t q && pathB md ops i q r
theorem path_listed {listed : Array Bool} (h : ShutL md ops listed) {i : Nat} : ∀ (r : List Nat) (t : Nat), pathB md ops i t r = true → listed.getD t false = true → listed.getD i false = true
 | [], t, hp, ht => by
  obtain ⟨oj, hj, e, he, hb, rfl⟩ := Region.waitsFor_spec hp
  exact h t oj hj ht e he hb
 | q :: r, t, hp, ht => by
  simp only [pathB, Bool.and_eq_true] at hp
  obtain ⟨oj, hj, e, he, hb, e2⟩ := Region.waitsFor_spec hp.1
  exact path_listed h r q hp.2 (by rw [← e2]; exact h t oj hj ht e he hb)
theorem path_ready {listed : Array Bool} (h : ShutL md ops listed) {i : Nat} {r : List Nat} {t : Nat} (hp : pathB md ops i t r = true) (ht : t ∈ Region.ready md ops listed) : listed.getD i false = true := by
 obtain ⟨_, ot, hot, hall⟩ := mem_ready.1 ht
 cases r with
 | nil =>
  obtain ⟨oj, hj, e, he, hb, rfl⟩ := Region.waitsFor_spec hp
  have : ot = oj := Option.some.inj (hot.symm.trans hj)
  subst this
  exact hall e he hb
 | cons q r =>
  simp only [pathB, Bool.and_eq_true] at hp
  obtain ⟨oj, hj, e, he, hb, e2⟩ := Region.waitsFor_spec hp.1
  have : ot = oj := Option.some.inj (hot.symm.trans hj)
  subst this
  exact path_listed h r q hp.2 (by rw [← e2]; exact hall e he hb)
theorem wpAnyU_first {i : Nat} {oi : Oper} {v : Value} (hi : ops[i]? = some oi) (hsel : ∀ (j : Nat) (o : Oper) cs b, ops[j]? = some o → o.op ≠ .select cs b)
  (hQ : ∀ c a w, Q (.panic c) (a.put oi.dst v) w → Q (.panic c) a w) {r : List Nat} (hp : pathB md ops i t r = true) :
  ∀ (fuel : Nat) (listed : Array Bool) (a : Act) (w : World), ShutL md ops listed →
   (∀ j oj, ops[j]? = some oj → j ≠ i → listed.getD j true = false → (∀ e ∈ oj.after, Region.binds md e = true → e.on ≠ i) → oi.apart ops oj = true) →
   i ∈ Region.ready md ops listed → YieldsIf P ops S oi v a → S w →
   wpAnyU P md ops Q S t fuel (listed.setIfInBounds i true) (a.put oi.dst v) w → wpAnyU P md ops Q S t (fuel + 1) listed a w := by
 intro fuel
 induction fuel with
 | zero =>
  intro listed a w hcl _ hr hy hS H
  refine ⟨fun h => (by rw [h] at hr; cases hr), fun j hj => ?_⟩
  by_cases hji : j = i
  ·
   subst hji; exact hy.wpOp hi hS ⟨fun _ => hS, H⟩
  ·
   have := ready_mono hj hji
   rw [H.1] at this
   cases this
 | succ fuel ih =>
  intro listed a w hcl hfree hr hy hS H
  refine ⟨fun h => (by rw [h] at hr; cases hr), fun j hj => ?_⟩
  by_cases hji : j = i
  ·
   subst hji; exact hy.wpOp hi hS ⟨fun _ => hS, H⟩
  ·
   have hiun : listed.getD i true = false := (mem_ready.1 hr).1
   have h1 := H.2 j (ready_mono hj hji)
   obtain ⟨hjun, oj, hoj, hall⟩ := mem_ready.1 hj
   have hnot : ∀ e ∈ oj.after, Region.binds md e = true → e.on ≠ i := fun e he hb heq => by
    have h1 := hall e he hb
    rw [heq, getD_both hiun] at h1
    cases h1
   have hjt : j ≠ t := fun e => by
    subst e
    have := path_ready hcl hp hj
    rw [getD_both hiun] at this
    cases this
   have h2 := wpOp_putIf hoj (hfree j oj hoj hji hjun hnot) (fun cs b => hsel i oi cs b hi) (fun cs b => hsel j oj cs b hoj) hQ hy h1
   have hfree' : ∀ k ok, ops[k]? = some ok → k ≠ i → (listed.setIfInBounds j true).getD k true = false →
     (∀ e ∈ ok.after, Region.binds md e = true → e.on ≠ i) → oi.apart ops ok = true := fun k ok hk hki hun hno => by
    refine hfree k ok hk hki ?_ hno
    by_cases hjk : j = k
    ·
     subst hjk; exact hjun
    ·
     rw [getD_set_ne true hjk] at hun; exact hun
   refine wpOp_mono (fun a' w' h3 => ⟨h3.2.1, ih (listed.setIfInBounds j true) a' w' (hcl.set hj) hfree' (ready_mono hr (Ne.symm hji)) h3.1 (h3.2.1 hjt) ?_⟩) h2
   rw [Array.setIfInBounds_comm _ _ hji]
   exact h3.2.2
/-- Number i is taken first. -/
theorem wpAnyU_take (i : Nat) (r : List Nat) {oi : Oper} {v : Value} {fuel : Nat} {listed : Array Bool} {a : Act} {w : World} (hi : ops[i]? = some oi)
  (hs : Region.noSelect ops = true) (hf : Region.free md ops listed i = true) (hr : (Region.ready md ops listed).contains i = true) (hc : shutB md ops listed = true) (hp : pathB md ops i t r = true)
  (hQ : ∀ c a w, Q (.panic c) (a.put oi.dst v) w → Q (.panic c) a w) (hw : Region.wanted oi (yielded ops a.tmps) = true) (hy : ∀ w, S w → (execOp a.eval oi).run P w = .ok (.value v) w) (hS : S w)
  (h : wpAnyU P md ops Q S t fuel (listed.setIfInBounds i true) (a.put oi.dst v) w) : wpAnyU P md ops Q S t (fuel + 1) listed a w :=
 wpAnyU_first hi (Region.noSelect_spec hs) hQ hp fuel listed a w (shutL_of hc) (Region.free_spec hi hf) (by simpa using hr) (.inl ⟨hw, hy⟩) hS h
/-- One alone may come up. -/
theorem wpAnyU_one (i : Nat) {o : Oper} {fuel : Nat} {listed : Array Bool} {a : Act} {w : World} (hr : Region.ready md ops listed = [i]) (ho : ops[i]? = some o)
  (h : ∀ K' : Act → World → Prop, Shut (∀ a w, (i ≠ t → S w) → ((i ≠ t → S w) → wpAnyU P md ops Q S t fuel (listed.setIfInBounds i true) a w) → K' a w) → if Region.wanted o (yielded ops a.tmps) = true then Oper.wp P o a w K' Q else K' (a.put o.dst undef) w) :
  wpAnyU P md ops Q S t (fuel + 1) listed a w :=
 ⟨fun h0 => (by rw [h0] at hr; cases hr), fun j hj => by
  rw [hr] at hj
  simp only [List.mem_singleton] at hj
  subst hj
  exact wpOp_step ho (fun K' hK => h K' (fun a w hS hW => hK a w ⟨hS, hW hS⟩))⟩
theorem wpAnyU_done {listed : Array Bool} {a : Act} {w : World} (hr : Region.ready md ops listed = []) (h : Q .normal a w) : ∀ fuel, wpAnyU P md ops Q S t fuel listed a w
 | 0 => ⟨hr, h⟩
 | _ + 1 => ⟨fun _ => h, by rw [hr]; simp⟩
theorem wp_regionU {id : Nat} {a : Act} {w : World} (t : Nat) (S : World → Prop) (hm : P.follows .mixedOrders = true)
  (h : wpAnyU P .any ops Q S t ops.size (Array.replicate ops.size false) a w.drew) : (Code.region id ops true).wp P Q a w :=
 wp_region_any hm (wpAny_ofU _ _ _ _ h)
end
end Go.Proofs.YtijlebhoapdfnaaGreat
