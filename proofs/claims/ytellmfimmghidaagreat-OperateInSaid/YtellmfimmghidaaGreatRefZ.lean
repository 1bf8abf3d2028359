/- The reference's Make, Put and Replace at any place. -/
import Derived.Test.YtellmfimmghidaaGreatRef2
import Derived.Test.YtellmfimmghidaaGreatFit
import Derived.Test.YtellmfimmghidaaGreatRegS
namespace Go.Proofs.YtellmfimmghidaaGreat
set_option linter.unusedSimpArgs false
open Go.RowKit
set_option linter.unusedVariables false
theorem erase_setR {α : Type} : ∀ (l : List α) (i : Nat) (x : α), (l.set i x).eraseIdx i = l.eraseIdx i
  | [], _, _ => rfl
  | a :: l, 0, x => rfl
  | a :: l, i + 1, x => by simp only [List.set_cons_succ, List.eraseIdx_cons_succ, erase_setR l i x]
section
variable {w W : World} {Rs : List Res} {r : Nat} {H : HeapM}
theorem Sep.yMake (S : Sep w Rs W) (i : Nat) (hi : Rs[i]? = some (refR r H)) {N : Nat} (G : H.Good N) (o : ObjM) (hp : o.pairs = []) (hk1 : 1 ≤ o.kind) (hk2 : o.kind ≤ 12) (sv : Value) (hs : ∀ W1, Sep w (Rs.eraseIdx i) W1 → SeesV W1 sv o.items) (hN : N ≤ 4000000) (hlen : o.items.length ≤ 4000000) :
    Calls Tryz.prog 60 #[.pointer (some ⟨r, 0, none⟩), .int .i64 o.kind, .string o.name, .int .i64 o.num, sv] W fun e W' => e = .returned (.agg #[.int .i64 4, .int .i64 (H.last + 1), .string ⟨#[]⟩]) ∧ Sep w (Rs.set i (refR r (H.add o))) W' := by
  have S0 : Sep w (refR r H :: Rs.eraseIdx i) W := S.perm (perm_pull hi)
  exact (ref_make S0 G o hp hk1 hk2 sv hs hN hlen).mono fun e W' ⟨e1, e2⟩ => ⟨e1, e2.perm (perm_push hi).symm⟩
theorem Sep.yPut (S : Sep w Rs W) (i : Nat) (hi : Rs[i]? = some (refR r H)) {N : Nat} (F : H.Fit N) (v k x : V) :
    Calls Tryz.prog 63 #[.pointer (some ⟨r, 0, none⟩), v.val, k.val, x.val] W fun e W' => e = .returned (.bool (H.canPut v k)) ∧ Sep w (Rs.set i (refR r (H.put v k x))) W' := by
  have S0 : Sep w (refR r H :: Rs.eraseIdx i) W := S.perm (perm_pull hi)
  exact (ref_put S0 F.G.ok.nk F.P v k x).mono fun e W' ⟨e1, e2⟩ => ⟨e1, e2.perm (perm_push hi).symm⟩
theorem Sep.yReplace (S : Sep w Rs W) (i : Nat) (hi : Rs[i]? = some (refR r H)) {N : Nat} (G : H.Good N) (v : V) (p q : Int) (sv : Value) (l : List V) (hs : ∀ W1, Sep w (Rs.eraseIdx i) W1 → SeesV W1 sv l) (hN : N + l.length ≤ 4000000) :
    Calls Tryz.prog 62 #[.pointer (some ⟨r, 0, none⟩), v.val, .int .i64 p, .int .i64 q, sv] W fun e W' => e = .returned (.bool (H.canReplace v p q)) ∧ Sep w (Rs.set i (refR r (H.replace v p q l))) W' := by
  have S0 : Sep w (refR r H :: Rs.eraseIdx i) W := S.perm (perm_pull hi)
  exact (ref_replace S0 G v p q sv l hs hN).mono fun e W' ⟨e1, e2⟩ => ⟨e1, e2.perm (perm_push hi).symm⟩
theorem refNew {w W : World} {Rs : List Res} (S : Sep w Rs W) : Sep w (refR W.heap.size ⟨[], 0⟩ :: Rs) (W.alloc (.cells #[.slice none 0 0, .int .i64 0] 113)) := by
  have h1 := S.addRow (Below.refl _ _) (e := 160) (m := 1) (f := RRow.ptr) (v := .slice none 0 0) (l := []) (World.ownsRow_nil _ _ _ _) (by simp [Value.ownBlock])
  have h2 := h1.alloc (.cells #[.slice none 0 0, .int .i64 0] 113)
  exact Sep.shutRef (H := ⟨[], 0⟩) (rows := []) (sv := .slice none 0 0) h2 rfl
end
end Go.Proofs.YtellmfimmghidaaGreat
