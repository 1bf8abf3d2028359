/- The frame of a law's proof: from its walk (it returns true, and what lay there lies as it lay) to the row's step, in both forms. -/
import Derived.Test.YtobcnffjfclolaaDoorRows
import Derived.WalkKit
import Derived.ProofKit
import Derived.OpenShut
import Derived.Carry
import Derived.HandedShaped
import Derived.JoinedCond
import Derived.SizedLaws
import Derived.Shelf.Vars
namespace Go.Proofs.YtobcnffjfclolaaDoor
set_option linter.unusedSimpArgs false
open Go.ChangeShapes Go.WideShapes Go.ChangeAt Go.RowKit
set_option linter.unusedVariables false
def parOk (P : Program) (ts : List TypeId) : Bool := ts.all fun t => P.readableRec t && decide (t < P.types.size)
theorem trodAll_below {H : Type} {enc : TypeId × Value → H} {P : Program} (hl : laidOutB P = true) {W W' : World} (hb : Below W.heap.size W W') :
    ∀ {ts : List TypeId} {vs : List Value} {ds : List (DataW H)} {ps : List MemPlace}, parOk P ts = true → DataW.TrodAll enc P W 0 (fun _ => true) true ts vs ds ps → (∀ x ∈ ps, x.block < W.heap.size) →
      DataW.TrodAll enc P W' 0 (fun b => decide (b < W.heap.size)) true ts vs ds ps
  | [], vs, ds, ps, _, h, _ => by
    obtain ⟨rfl, rfl, rfl⟩ := trodAll_nil h
    exact trodAll_mk0
  | t :: ts, vs, ds, ps, hp, h, hlt => by
    obtain ⟨v, vs', d, ds', p, q, rfl, rfl, rfl, h1, h2⟩ := trodAll_cons h
    simp only [parOk, List.all_cons, Bool.and_eq_true, decide_eq_true_eq] at hp
    exact trodAll_cons_mk (Below.trod hl hp.1.1 hp.1.2 h1 hb (fun x hx => hlt x (List.mem_append_left _ hx)))
      (trodAll_below hl hb (by simpa [parOk] using hp.2) h2 (fun x hx => hlt x (List.mem_append_right _ hx)))
theorem law_post {H : Type} {enc : TypeId × Value → H} {P : Program} {fn : Func} {s : ChangeSpec} {tb : TypeId} {W W' : World} {args : Array Value} {ds gs : List (DataW H)} {before : List MemPlace}
    (hl : laidOutB P = true) (hpar : parOk P fn.params.toList = true) (hv : s.vars = []) (hs : (s.fn H (ds ++ gs)).results = [.lit (.bool true)] ∧ (s.fn H (ds ++ gs)).args = ds ∧ (s.fn H (ds ++ gs)).vars = [])
    (hr : fn.resultTypes = #[tb]) (hu : P.underlying tb = some .bool) (hW : DataW.Whole enc P fn.params.toList s.vars false W args.toList ds gs before) (hb : Below W.heap.size W W') :
    s.post enc P fn false true false false W args (.bool true) W' := by
  have hW0 := hW
  obtain ⟨p, q, hA0, hV, rfl, hfz, hnd⟩ := hW0
  rw [hv] at hV
  obtain ⟨rfl, rfl⟩ := trodVars_none hV
  refine ⟨ds, [], p ++ [], [], p, [], hW, ?_, ?_, ?_, hb.frame _, fun h => by cases h⟩
  · rw [hs.1, hr]; exact trodAll_cons_mk (shut_bool hu true) trodAll_mk0
  · rw [hs.2.1]; exact trodAll_below hl hb hpar hA0 (fun x hx => by have := hW.lt x (List.mem_append_left _ hx); simpa using this)
  · rw [hv, hs.2.2]; exact rfl
end Go.Proofs.YtobcnffjfclolaaDoor
