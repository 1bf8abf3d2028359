import Derived.OrdersHeld
import Derived.OrdersIn
import Derived.StillTail
import Derived.Deep.RegionHeld
import Derived.Deep.RegionHeld3
import Derived.Deep.RegionLaw
import Derived.Test.YtijlebhoapdfnaaGreatProg
import Derived.Test.YtijlebhoapdfnaaGreatCore
/- A region that draws its order, inside a fence (a round's too): a load is taken first where nobody in the region writes its cell. -/
namespace Go.Proofs.YtijlebhoapdfnaaGreat
set_option linter.unusedSimpArgs false
open Go
set_option linter.unusedVariables false
section
variable {F : Fence} {n : Nat} {P : Program} {ops : Array Oper} {Q : Exit → Act → World → Prop} {md : Region.Mode} {S : World → Prop}
/-- In every world that meets S the operation yields v, and is about to make no call. -/
def YieldsI (P : Program) (ops : Array Oper) (S : World → Prop) (o : Oper) (v : Value) (a : Act) : Prop := YieldsIf P ops S o v a ∧ ∀ w, o.about P w a.eval = none
theorem YieldsI.of_same {o : Oper} {v : Value} {a a' : Act} (hy : YieldsI P ops S o v a) (he : execOp a'.eval o = execOp a.eval o)
  (hw : Region.wanted o (yielded ops a'.tmps) = Region.wanted o (yielded ops a.tmps)) (hb : ∀ w, o.about P w a'.eval = o.about P w a.eval) : YieldsI P ops S o v a' :=
 ⟨hy.1.of_same he hw, fun w => by rw [hb w]; exact hy.2 w⟩
end
end Go.Proofs.YtijlebhoapdfnaaGreat
/- One or two resources out of some. -/
namespace Go.Proofs.YtijlebhoapdfnaaGreat
set_option linter.unusedSimpArgs false
open Go.RowKit
set_option linter.unusedVariables false
section
variable {w W : World} {Q base : List Res} {A B : Res}
theorem Sep.one (T : Sep w (Q ++ base) W) (i : Nat) (hi : Q[i]? = some A) : Sep w (A :: base) W :=
 T.sub (List.Sublist.append (l₁ := [A]) (List.singleton_sublist.2 (List.mem_of_getElem? hi)) (List.Sublist.refl base))
theorem two_sub {α : Type} {Q : List α} {A B : α} {i j : Nat} (h : i < j) (hi : Q[i]? = some A) (hj : Q[j]? = some B) : [A, B].Sublist Q := by
 have e : Q = Q.take j ++ Q.drop j := (List.take_append_drop j Q).symm
 rw [e]
 refine List.Sublist.append (l₁ := [A]) (r₁ := [B]) (List.singleton_sublist.2 ?_) (List.singleton_sublist.2 ?_)
 ·
  refine List.mem_of_getElem? (i := i) ?_
  rw [List.getElem?_take_of_lt h]; exact hi
 ·
  refine List.mem_of_getElem? (i := 0) ?_
  rw [List.getElem?_drop]; simpa using hj
theorem Sep.two (T : Sep w (Q ++ base) W) (i j : Nat) (hij : i ≠ j) (hi : Q[i]? = some A) (hj : Q[j]? = some B) : Sep w (A :: B :: base) W := by
 rcases Nat.lt_or_gt_of_ne hij with h | h
 ·
  exact T.sub (List.Sublist.append (two_sub h hi hj) (List.Sublist.refl base))
 ·
  exact (T.sub (List.Sublist.append (two_sub h hj hi) (List.Sublist.refl base))).swap
end
end Go.Proofs.YtijlebhoapdfnaaGreat
/- Steps of a drawn region, in few words. -/
namespace Go.Proofs.YtijlebhoapdfnaaGreat
set_option linter.unusedSimpArgs false
open Go Go.RowKit
set_option linter.unusedVariables false
section
variable {P : Program} {ops : Array Oper} {Q : Exit → Act → World → Prop} {md : Region.Mode} {S : World → Prop}
theorem takeT (i : Nat) {oi : Oper} {v : Value} {fuel : Nat} {listed : Array Bool} {a : Act} {w : World} (hS : S w)
  (hi : ops[i]? = some oi := by simp only [List.getElem?_toArray, List.getElem?_cons_succ, List.getElem?_cons_zero]; rfl)
  (hs : Region.noSelect ops = true := by kernel_rfl) (hf : Region.free md ops listed i = true := by kernel_rfl) (hr : (Region.ready md ops listed).contains i = true := by kernel_rfl)
  (hQ : ∀ c a w, Q (.panic c) (a.put oi.dst v) w → Q (.panic c) a w := by exact fun _ _ _ h => h) (hy : YieldsIf P ops S oi v a)
  (h : wpAnyH P md ops Q S fuel (listed.setIfInBounds i true) (a.put oi.dst v) w) : wpAnyH P md ops Q S (fuel + 1) listed a w :=
 wpAnyH_take hi hs hf hr hQ hy hS h
theorem readyT (rs : List Nat) {fuel : Nat} {listed : Array Bool} {a : Act} {w : World} (h : AllReadyH P md ops Q S fuel listed a w rs)
  (hr : Region.ready md ops listed = rs := by kernel_rfl) (hne : rs ≠ [] := by simp) : wpAnyH P md ops Q S (fuel + 1) listed a w := wpAnyH_ready hr hne h
theorem consT {fuel : Nat} {listed : Array Bool} {a : Act} {w : World} {i : Nat} {o : Oper} {rs : List Nat}
  (h : ∀ K' : Act → World → Prop, Shut (∀ a w, S w → (S w → wpAnyH P md ops Q S fuel (listed.setIfInBounds i true) a w) → K' a w) → if Region.wanted o (yielded ops a.tmps) = true then Oper.wp P o a w K' Q else K' (a.put o.dst undef) w)
  (hs : AllReadyH P md ops Q S fuel listed a w rs)
  (ho : ops[i]? = some o := by simp only [List.getElem?_toArray, List.getElem?_cons_succ, List.getElem?_cons_zero]; rfl) : AllReadyH P md ops Q S fuel listed a w (i :: rs) := AllReadyH.cons ho h hs
end
end Go.Proofs.YtijlebhoapdfnaaGreat
