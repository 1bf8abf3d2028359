import Derived.OrdersHeld
import Derived.Deep.RegionHeld
import Derived.Test.YtijlebhoapdfnaaGreatProg
import Derived.Test.YtijlebhoapdfnaaGreatCore
import Derived.OrdersIn
import Derived.StillTail
import Derived.Deep.RegionHeld3
import Derived.Deep.RegionLaw
/- A region that draws its order, inside a fence (a round's too): a load is taken first where nobody in the region writes its cell. -/
namespace Go.Proofs.YtijlebhoapdfnaaGreat
set_option linter.unusedSimpArgs false
open Go
set_option linter.unusedVariables false
section
variable {F : Fence} {n : Nat} {P : Program} {ops : Array Oper} {Q : Exit → Act → World → Prop} {md : Region.Mode} {S : World → Prop}
/-- In every world that meets S the operation yields v, and is about to make no call. -/
def YieldsI (P : Program) (ops : Array Oper) (S : World → Prop) (o : Oper) (v : Value) (a : Act) : Prop := YieldsIf P ops S o v a ∧ ∀ w, o.about P w a.eval = none
theorem YieldsI.of_same {o : Oper} {v : Value} {a a' : Act} (hy : YieldsI P ops S o v a) (he : execOp a'.eval o = execOp a.eval o)
  (hw : Region.wanted o (yielded ops a'.tmps) = Region.wanted o (yielded ops a.tmps)) (hb : ∀ w, o.about P w a'.eval = o.about P w a.eval) : YieldsI P ops S o v a' :=
 ⟨hy.1.of_same he hw, fun w => by rw [hb w]; exact hy.2 w⟩
end
end Go.Proofs.YtijlebhoapdfnaaGreat
/- One or two resources out of some. -/
namespace Go.Proofs.YtijlebhoapdfnaaGreat
set_option linter.unusedSimpArgs false
open Go.RowKit
set_option linter.unusedVariables false
section
variable {w W : World} {Q base : List Res} {A B : Res}
theorem Sep.one (T : Sep w (Q ++ base) W) (i : Nat) (hi : Q[i]? = some A) : Sep w (A :: base) W :=
 T.sub (List.Sublist.append (l₁ := [A]) (List.singleton_sublist.2 (List.mem_of_getElem? hi)) (List.Sublist.refl base))
end
end Go.Proofs.YtijlebhoapdfnaaGreat
/- Steps of a drawn region, in few words. -/
namespace Go.Proofs.YtijlebhoapdfnaaGreat
set_option linter.unusedSimpArgs false
open Go Go.RowKit
set_option linter.unusedVariables false
section
variable {P : Program} {ops : Array Oper} {Q : Exit → Act → World → Prop} {md : Region.Mode} {S : World → Prop}
theorem takeT (i : Nat) {oi : Oper} {v : Value} {fuel : Nat} {listed : Array Bool} {a : Act} {w : World} (hS : S w)
  (hi : ops[i]? = some oi := by simp only [List.getElem?_toArray, List.getElem?_cons_succ, List.getElem?_cons_zero]; rfl)
  (hs : Region.noSelect ops = true := by kernel_rfl) (hf : Region.free md ops listed i = true := by kernel_rfl) (hr : (Region.ready md ops listed).contains i = true := by kernel_rfl)
  (hQ : ∀ c a w, Q (.panic c) (a.put oi.dst v) w → Q (.panic c) a w := by exact fun _ _ _ h => h) (hy : YieldsIf P ops S oi v a)
  (h : wpAnyH P md ops Q S fuel (listed.setIfInBounds i true) (a.put oi.dst v) w) : wpAnyH P md ops Q S (fuel + 1) listed a w :=
 wpAnyH_take hi hs hf hr hQ hy hS h
theorem readyT (rs : List Nat) {fuel : Nat} {listed : Array Bool} {a : Act} {w : World} (h : AllReadyH P md ops Q S fuel listed a w rs)
  (hr : Region.ready md ops listed = rs := by kernel_rfl) (hne : rs ≠ [] := by simp) : wpAnyH P md ops Q S (fuel + 1) listed a w := wpAnyH_ready hr hne h
theorem consT {fuel : Nat} {listed : Array Bool} {a : Act} {w : World} {i : Nat} {o : Oper} {rs : List Nat}
  (h : ∀ K' : Act → World → Prop, Shut (∀ a w, S w → (S w → wpAnyH P md ops Q S fuel (listed.setIfInBounds i true) a w) → K' a w) → if Region.wanted o (yielded ops a.tmps) = true then Oper.wp P o a w K' Q else K' (a.put o.dst undef) w)
  (hs : AllReadyH P md ops Q S fuel listed a w rs)
  (ho : ops[i]? = some o := by simp only [List.getElem?_toArray, List.getElem?_cons_succ, List.getElem?_cons_zero]; rfl) : AllReadyH P md ops Q S fuel listed a w (i :: rs) := AllReadyH.cons ho h hs
end
end Go.Proofs.YtijlebhoapdfnaaGreat
/- A region that draws its order, as a symbolic run: the state is a frame and a list of resources; all worlds that have just these beside the base are walked at once. What is quiet in all of them (a load, a call that leaves all as it was) is taken first. -/
namespace Go.Proofs.YtijlebhoapdfnaaGreat
set_option linter.unusedSimpArgs false
open Go Go.RowKit
set_option linter.unusedVariables false
section
variable {P : Program} {ops : Array Oper} {Q : Exit → Act → World → Prop} {md : Region.Mode} {w : World} {base : List Res}
/-- What an operation yields, and the world behind it. -/
def symUpon (P : Program) (R : Value → World → Prop) : Result Next → Prop
 | .ok (.value u) w' => R u w'
 | .ok .skip w' => R undef w'
 | .ok (.enter f args) w' => Calls P f args w' (fun e w'' => ∃ v, e = .returned v ∧ R v w'')
 | _ => False
theorem symUpon.mono {R R' : Value → World → Prop} (h : ∀ v W, R v W → R' v W) {r : Result Next} (hh : symUpon P R r) : symUpon P R' r := by
 cases r with
 | ok n W =>
  cases n <;> simp only [symUpon] at hh ⊢
  case value u => exact h _ _ hh
  case skip => exact h _ _ hh
  case enter f args => exact hh.mono fun e W' ⟨v, e1, e2⟩ => ⟨v, e1, h _ _ e2⟩
 | halt x W => exact hh
/-- From every world with these resources the operation yields something, and these. -/
def SymAt (P : Program) (w : World) (base : List Res) (o : Oper) (a : Act) (E : List Res) (Φ : Value → List Res → Prop) : Prop :=
 ∀ W, Sep w (E ++ base) W → symUpon P (fun v W' => ∃ E', Φ v E' ∧ Sep w (E' ++ base) W') ((execOp a.eval o).run P W)
def sOp (P : Program) (w : World) (base : List Res) (ops : Array Oper) (i : Nat) (K : Act → List Res → Prop) (a : Act) (E : List Res) : Prop :=
 match ops[i]? with
 | none => K a E
 | some o => if Region.wanted o (yielded ops a.tmps) then ∃ Φ : Value → List Res → Prop, SymAt P w base o a E Φ ∧ ∀ v E', Φ v E' → K (a.put o.dst v) E' else K (a.put o.dst undef) E
theorem sOp_mono {i : Nat} {a : Act} {E : List Res} {K K' : Act → List Res → Prop} (h : ∀ a E, K a E → K' a E) (hh : sOp P w base ops i K a E) : sOp P w base ops i K' a E := by
 unfold sOp at *
 split
 ·
  exact h _ _ (by simpa [*] using hh)
 ·
  rename_i o ho
  simp only [ho] at hh
  split
  ·
   rename_i hw; simp only [hw, if_true] at hh; obtain ⟨Φ, h1, h2⟩ := hh; exact ⟨Φ, h1, fun v E' hv => h _ _ (h2 v E' hv)⟩
  ·
   rename_i hw; simp only [hw] at hh; exact h _ _ hh
/-- Whatever order is picked from here on. -/
def wpAnyS (P : Program) (w : World) (base : List Res) (md : Region.Mode) (ops : Array Oper) (Q : Exit → Act → World → Prop) : Nat → Array Bool → Act → List Res → Prop
 | 0, listed, a, E => Region.ready md ops listed = [] ∧ ∀ W, Sep w (E ++ base) W → Q .normal a W
 | fuel + 1, listed, a, E =>
  (Region.ready md ops listed = [] → ∀ W, Sep w (E ++ base) W → Q .normal a W) ∧
  ∀ i ∈ Region.ready md ops listed, sOp P w base ops i (wpAnyS P w base md ops Q fuel (listed.setIfInBounds i true)) a E
theorem wpOp_of_sOp {i : Nat} {a : Act} {E : List Res} {K : Act → List Res → Prop} {K' : Act → World → Prop} {Q' : Exit → Act → World → Prop} {W : World} (hW : Sep w (E ++ base) W)
  (h : ∀ a E W, Sep w (E ++ base) W → K a E → K' a W) (hh : sOp P w base ops i K a E) : wpOp P ops Q' i K' a W := by
 unfold sOp at hh
 unfold wpOp
 split
 ·
  rename_i ho; simp only [ho] at hh; exact h _ _ _ hW hh
 ·
  rename_i o ho
  simp only [ho] at hh
  split
  ·
   rename_i hw
   simp only [hw, if_true] at hh
   obtain ⟨Φ, h1, h2⟩ := hh
   refine .inl ?_
   have h3 := h1 W hW
   unfold Oper.wp
   generalize (execOp a.eval o).run P W = r at *
   cases r with
   | ok n w' =>
    cases n <;> simp only [symUpon] at h3 <;> simp only [Oper.upon]
    case value u => obtain ⟨E', e1, e2⟩ := h3; exact h _ _ _ e2 (h2 _ _ e1)
    case skip => obtain ⟨E', e1, e2⟩ := h3; exact h _ _ _ e2 (h2 _ _ e1)
    case enter f args => exact h3.mono fun e w'' ⟨v, he, E', e1, e2⟩ => by subst he; exact h _ _ _ e2 (h2 _ _ e1)
   | halt x w' => simp only [symUpon] at h3
  ·
   rename_i hw; simp only [hw] at hh; exact h _ _ _ hW hh
theorem wpAny_of_sym : ∀ (fuel : Nat) (listed : Array Bool) (a : Act) (E : List Res) (W : World), Sep w (E ++ base) W → wpAnyS P w base md ops Q fuel listed a E → wpAny P md ops Q fuel listed a W
 | 0, _, _, _, W, hW, h => ⟨h.1, h.2 W hW⟩
 | fuel + 1, _, _, _, W, hW, h => ⟨fun h0 => h.1 h0 W hW, fun i hi => wpOp_of_sOp hW (fun a' E' W' hW' => wpAny_of_sym fuel _ a' E' W' hW') (h.2 i hi)⟩
/-- Quiet: whatever else there is beside the base, it yields v and leaves all. -/
def QuietS (P : Program) (w : World) (base : List Res) (ops : Array Oper) (o : Oper) (v : Value) (a : Act) : Prop :=
 (Region.wanted o (yielded ops a.tmps) = true ∧ ∀ E W, Sep w (E ++ base) W → symUpon P (fun u W' => u = v ∧ Sep w (E ++ base) W') ((execOp a.eval o).run P W)) ∨
 (Region.wanted o (yielded ops a.tmps) = false ∧ v = undef)
theorem QuietS.sOp {i : Nat} {o : Oper} {v : Value} {a : Act} {E : List Res} (hi : ops[i]? = some o) (hy : QuietS P w base ops o v a) {K : Act → List Res → Prop} (h : K (a.put o.dst v) E) : sOp P w base ops i K a E := by
 unfold Proofs.YtijlebhoapdfnaaGreat.sOp
 simp only [hi]
 rcases hy with ⟨hw, hv⟩ | ⟨hw, rfl⟩
 ·
  simp only [hw, if_true]
  exact ⟨fun u E' => u = v ∧ E' = E, fun W hW => (hv E W hW).mono fun u W' ⟨e1, e2⟩ => ⟨E, ⟨e1, rfl⟩, e2⟩, fun u E' ⟨e1, e2⟩ => by subst e1 e2; exact h⟩
 ·
  simp only [hw, Bool.false_eq_true, if_false]; exact h
theorem QuietS.of_same {o : Oper} {v : Value} {a a' : Act} (hy : QuietS P w base ops o v a) (he : execOp a'.eval o = execOp a.eval o)
  (hw : Region.wanted o (yielded ops a'.tmps) = Region.wanted o (yielded ops a.tmps)) : QuietS P w base ops o v a' := by
 unfold QuietS at *
 rw [he, hw]
 exact hy
theorem sOp_put {j : Nat} {oi oj : Oper} {v : Value} (hj : ops[j]? = some oj) (hap : oi.apart ops oj = true)
  (hsi : ∀ cs b, oi.op ≠ .select cs b) (hsj : ∀ cs b, oj.op ≠ .select cs b) {K : Act → List Res → Prop} {a : Act} {E : List Res}
  (hy : QuietS P w base ops oi v a) (h : sOp P w base ops j K (a.put oi.dst v) E) :
  sOp P w base ops j (fun a' E' => QuietS P w base ops oi v a' ∧ K (a'.put oi.dst v) E') a E := by
 obtain ⟨h1, h2, h3⟩ := Oper.apart_spec hap
 have keep : ∀ (a : Act), QuietS P w base ops oi v a → ∀ u, QuietS P w base ops oi v (a.put oj.dst u) := fun a hy u =>
  hy.of_same (execOp_put oi hsi a oj.dst u h3) (wanted_put oi a oj.dst u h3)
 unfold sOp at *
 simp only [hj] at *
 rw [wanted_put oj a oi.dst v h1] at h
 split
 ·
  rename_i hw
  simp only [hw, if_true] at h
  obtain ⟨Φ, hu, hn⟩ := h
  refine ⟨Φ, fun W hW => ?_, fun u E' hv => ⟨keep a hy u, by rw [← Act.put_comm a v u h2]; exact hn u E' hv⟩⟩
  have := hu W hW
  rwa [execOp_put oj hsj a oi.dst v h1] at this
 ·
  rename_i hw
  simp only [hw] at h
  exact ⟨keep a hy _, by rw [← Act.put_comm a v undef h2]; exact h⟩
theorem wpAnyS_first {i : Nat} {oi : Oper} {v : Value} (hi : ops[i]? = some oi) (hsel : ∀ (j : Nat) (o : Oper) cs b, ops[j]? = some o → o.op ≠ .select cs b) :
  ∀ (fuel : Nat) (listed : Array Bool) (a : Act) (E : List Res),
   (∀ j oj, ops[j]? = some oj → j ≠ i → listed.getD j true = false → (∀ e ∈ oj.after, Region.binds md e = true → e.on ≠ i) → oi.apart ops oj = true) →
   i ∈ Region.ready md ops listed → QuietS P w base ops oi v a →
   wpAnyS P w base md ops Q fuel (listed.setIfInBounds i true) (a.put oi.dst v) E → wpAnyS P w base md ops Q (fuel + 1) listed a E := by
 intro fuel
 induction fuel with
 | zero =>
  intro listed a E _ hr hy H
  refine ⟨fun h => (by rw [h] at hr; cases hr), fun j hj => ?_⟩
  by_cases hji : j = i
  ·
   subst hji; exact hy.sOp hi H
  ·
   have := ready_mono hj hji
   rw [H.1] at this
   cases this
 | succ fuel ih =>
  intro listed a E hfree hr hy H
  refine ⟨fun h => (by rw [h] at hr; cases hr), fun j hj => ?_⟩
  by_cases hji : j = i
  ·
   subst hji; exact hy.sOp hi H
  ·
   have h1 := H.2 j (ready_mono hj hji)
   obtain ⟨hjun, oj, hoj, hall⟩ := mem_ready.1 hj
   have hnot : ∀ e ∈ oj.after, Region.binds md e = true → e.on ≠ i := fun e he hb heq => by
    have h1 := hall e he hb
    have h0 := (mem_ready.1 hr).1
    rw [heq] at h1
    rcases Nat.lt_or_ge i listed.size with h' | h'
    ·
     simp [h'] at h0 h1; rw [h0] at h1; cases h1
    ·
     simp [Array.getElem?_eq_none h'] at h1
   have h2 := sOp_put hoj (hfree j oj hoj hji hjun hnot) (fun cs b => hsel i oi cs b hi) (fun cs b => hsel j oj cs b hoj) hy h1
   have hfree' : ∀ k ok, ops[k]? = some ok → k ≠ i → (listed.setIfInBounds j true).getD k true = false →
     (∀ e ∈ ok.after, Region.binds md e = true → e.on ≠ i) → oi.apart ops ok = true := fun k ok hk hki hun hno => by
    refine hfree k ok hk hki ?_ hno
    by_cases hjk : j = k
    ·
     subst hjk; exact hjun
    ·
     rw [getD_set_ne true hjk] at hun; exact hun
   refine sOp_mono (fun a' E' h3 => ih (listed.setIfInBounds j true) a' E' hfree' (ready_mono hr (Ne.symm hji)) h3.1 ?_) h2
   rw [Array.setIfInBounds_comm _ _ hji]
   exact h3.2
/-- Number i is taken first. -/
theorem quietS (i : Nat) {oi : Oper} {v : Value} {fuel : Nat} {listed : Array Bool} {a : Act} {E : List Res}
  (h : wpAnyS P w base md ops Q fuel (listed.setIfInBounds i true) (a.put oi.dst v) E)
  (hi : ops[i]? = some oi := by simp only [List.getElem?_toArray, List.getElem?_cons_succ, List.getElem?_cons_zero]; rfl)
  (hy : (∀ E W, Sep w (E ++ base) W → symUpon P (fun u W' => u = v ∧ Sep w (E ++ base) W') ((execOp a.eval oi).run P W)) := by intro E Wx hSw; go_simp; exact ⟨rfl, hSw⟩)
  (hs : Region.noSelect ops = true := by kernel_rfl) (hf : Region.free md ops listed i = true := by kernel_rfl) (hr : (Region.ready md ops listed).contains i = true := by kernel_rfl)
  (hw : Region.wanted oi (yielded ops a.tmps) = true := by rfl) : wpAnyS P w base md ops Q (fuel + 1) listed a E :=
 wpAnyS_first hi (Region.noSelect_spec hs) fuel listed a E (Region.free_spec hi hf) (by simpa using hr) (.inl ⟨hw, hy⟩) h
def AllReadyS (P : Program) (w : World) (base : List Res) (md : Region.Mode) (ops : Array Oper) (Q : Exit → Act → World → Prop) (fuel : Nat) (listed : Array Bool) (a : Act) (E : List Res) (rs : List Nat) : Prop :=
 ∀ i ∈ rs, sOp P w base ops i (wpAnyS P w base md ops Q fuel (listed.setIfInBounds i true)) a E
theorem nilS {fuel : Nat} {listed : Array Bool} {a : Act} {E : List Res} : AllReadyS P w base md ops Q fuel listed a E [] := fun _ h => by cases h
theorem readyS (rs : List Nat) {fuel : Nat} {listed : Array Bool} {a : Act} {E : List Res} (h : AllReadyS P w base md ops Q fuel listed a E rs)
  (hr : Region.ready md ops listed = rs := by kernel_rfl) (hne : rs ≠ [] := by simp) : wpAnyS P w base md ops Q (fuel + 1) listed a E := ⟨fun h0 => absurd (hr ▸ h0) hne, hr ▸ h⟩
/-- An operation that does something: what it may yield and leave. -/
theorem stepS {fuel : Nat} {listed : Array Bool} {a : Act} {E : List Res} {i : Nat} {o : Oper} {rs : List Nat} (Φ : Value → List Res → Prop)
  (ho : ops[i]? = some o := by simp only [List.getElem?_toArray, List.getElem?_cons_succ, List.getElem?_cons_zero]; rfl)
  (h1 : SymAt P w base o a E Φ) (h2 : ∀ v E', Φ v E' → wpAnyS P w base md ops Q fuel (listed.setIfInBounds i true) (a.put o.dst v) E')
  (hs : AllReadyS P w base md ops Q fuel listed a E rs)
  (hw : Region.wanted o (yielded ops a.tmps) = true := by rfl) : AllReadyS P w base md ops Q fuel listed a E (i :: rs) := fun j hj => by
 rcases List.mem_cons.1 hj with rfl | hj
 ·
  unfold sOp; simp only [ho, hw, if_true]; exact ⟨Φ, h1, h2⟩
 ·
  exact hs j hj
/-- Nothing: a slot that is kept for a block to come. -/
def emptyR : Res := ⟨fun _ F => F = [], fun {_ _ _} h _ => h, fun {_ F} h b hb => by rw [h] at hb; cases hb⟩
theorem Sep.putE {w W : World} {Rs : List Res} (S : Sep w Rs W) : Sep w (emptyR :: Rs) W := by
 obtain ⟨h, F, f1, f2, f3⟩ := S
 exact ⟨h, F, ⟨[], F, rfl, f1, rfl⟩, f2, f3⟩
theorem Sep.fillE {w W : World} {Rs : List Res} {o : Obj} {j : Nat} (S : Sep w Rs W) (hj : Rs[j]? = some emptyR) : Sep w (Rs.set j (boxR W.heap.size o)) (W.alloc o) := by
 have T := S.alloc o
 obtain ⟨hlt, he⟩ := List.getElem?_eq_some_iff.1 hj
 have e1 : Rs = Rs.take j ++ emptyR :: Rs.drop (j + 1) := by rw [← he, List.getElem_cons_drop, List.take_append_drop]
 have e2 : Rs.set j (boxR W.heap.size o) = Rs.take j ++ boxR W.heap.size o :: Rs.drop (j + 1) := by rw [List.set_eq_take_append_cons_drop, if_pos hlt]
 rw [e2]
 rw [e1] at T
 refine Sep.perm (Rs := boxR W.heap.size o :: (Rs.take j ++ Rs.drop (j + 1))) ?_ (List.perm_middle.symm)
 refine T.sub (List.Sublist.cons_cons _ (List.Sublist.append (List.Sublist.refl _) (List.sublist_cons_self _ _)))
/-- It makes a block, in a slot that was kept for it. -/
theorem allocS {fuel : Nat} {listed : Array Bool} {a : Act} {E : List Res} {i : Nat} {o : Oper} {rs : List Nat} (j : Nat) (hj : E[j]? = some emptyR) (f : Nat → Value) (obj : Obj)
  (ho : ops[i]? = some o := by simp only [List.getElem?_toArray, List.getElem?_cons_succ, List.getElem?_cons_zero]; rfl)
  (h1 : ∀ W, (execOp a.eval o).run P W = .ok (.value (f W.heap.size)) (W.alloc obj))
  (h2 : ∀ q, wpAnyS P w base md ops Q fuel (listed.setIfInBounds i true) (a.put o.dst (f q)) (E.set j (boxR q obj)))
  (hs : AllReadyS P w base md ops Q fuel listed a E rs)
  (hw : Region.wanted o (yielded ops a.tmps) = true := by rfl) : AllReadyS P w base md ops Q fuel listed a E (i :: rs) :=
 stepS (ho := ho) (hw := hw) (hs := hs) (fun v E' => ∃ q, v = f q ∧ E' = E.set j (boxR q obj)) (h1 := fun W hW => by
  rw [h1 W]
  have h := hW.fillE (o := obj) (j := j) (by rw [List.getElem?_append_left (List.getElem?_eq_some_iff.1 hj).1]; exact hj)
  rw [List.set_append_left _ _ (List.getElem?_eq_some_iff.1 hj).1] at h
  exact ⟨_, ⟨_, rfl, rfl⟩, h⟩) (h2 := fun v E' ⟨q, e1, e2⟩ => by subst e1 e2; exact h2 q)
theorem symCall {f : FuncId} {args : Array Value} {W : World} {v : Value} {p : World → Prop} (h : Calls P f args W fun e W' => e = .returned v ∧ p W') : symUpon P (fun u W' => u = v ∧ p W') (.ok (.enter f args) W) :=
 h.mono fun e W' ⟨h1, h2⟩ => ⟨v, h1, rfl, h2⟩
theorem symCallN {f : FuncId} {args : Array Value} {W : World} {Φ : Value → List Res → Prop} (h : Calls P f args W fun e W' => ∃ v E', e = .returned v ∧ Φ v E' ∧ Sep w (E' ++ base) W') : symUpon P (fun u W' => ∃ E', Φ u E' ∧ Sep w (E' ++ base) W') (.ok (.enter f args) W) :=
 h.mono fun e W' ⟨v, E', h1, h2, h3⟩ => ⟨v, h1, E', h2, h3⟩
/-- It leaves these, and yields this. -/
theorem detS {fuel : Nat} {listed : Array Bool} {a : Act} {E : List Res} {i : Nat} {o : Oper} {rs : List Nat} (v : Value) (E' : List Res)
  (ho : ops[i]? = some o := by simp only [List.getElem?_toArray, List.getElem?_cons_succ, List.getElem?_cons_zero]; rfl)
  (h1 : ∀ W, Sep w (E ++ base) W → symUpon P (fun u W' => u = v ∧ Sep w (E' ++ base) W') ((execOp a.eval o).run P W))
  (h2 : wpAnyS P w base md ops Q fuel (listed.setIfInBounds i true) (a.put o.dst v) E')
  (hs : AllReadyS P w base md ops Q fuel listed a E rs)
  (hw : Region.wanted o (yielded ops a.tmps) = true := by rfl) : AllReadyS P w base md ops Q fuel listed a E (i :: rs) :=
 stepS (ho := ho) (hw := hw) (hs := hs) (fun u E1 => u = v ∧ E1 = E') (h1 := fun W hW => (h1 W hW).mono fun u W' ⟨e1, e2⟩ => ⟨E', ⟨e1, rfl⟩, e2⟩) (h2 := fun u E1 ⟨e1, e2⟩ => by subst e1 e2; exact h2)
theorem doneS {fuel : Nat} {listed : Array Bool} {a : Act} {E : List Res} (h : ∀ W, Sep w (E ++ base) W → Q .normal a W) (hr : Region.ready md ops listed = [] := by kernel_rfl) : wpAnyS P w base md ops Q fuel listed a E := by
 cases fuel with
 | zero => exact ⟨hr, h⟩
 | succ n => exact ⟨fun _ => h, by rw [hr]; simp⟩
theorem regionS {id : Nat} {a : Act} {W : World} {E : List Res} (S : Sep w (E ++ base) W)
  (h : wpAnyS P w base .any ops Q ops.size (Array.replicate ops.size false) a E) (hm : P.follows .mixedOrders = true := by kernel_rfl) : (Code.region id ops true).wp P Q a W :=
 wp_region_any hm (wpAny_of_sym _ _ _ E W.drew S.drew h)
end
end Go.Proofs.YtijlebhoapdfnaaGreat
/- A region that does not draw, in the same way. -/
namespace Go.Proofs.YtijlebhoapdfnaaGreat
set_option linter.unusedSimpArgs false
open Go Go.RowKit
set_option linter.unusedVariables false
section
variable {P : Program} {ops : Array Oper} {Q : Exit → Act → World → Prop} {w : World} {base : List Res}
def wpSeqS (P : Program) (w : World) (base : List Res) (ops : Array Oper) (Q : Exit → Act → World → Prop) : List Oper → Act → List Res → Prop
 | [], a, E => ∀ W, Sep w (E ++ base) W → Q .normal a W
 | o :: rest, a, E => if Region.wanted o (yielded ops a.tmps) then ∃ Φ : Value → List Res → Prop, SymAt P w base o a E Φ ∧ ∀ v E', Φ v E' → wpSeqS P w base ops Q rest (a.put o.dst v) E' else wpSeqS P w base ops Q rest (a.put o.dst undef) E
/-- The end of a region that does not draw (for texts where wpSeqS does not unfold). -/
theorem doneL {P : Program} {ops : Array Oper} {Q : Exit → Act → World → Prop} {w : World} {base : List Res} {a : Act} {E : List Res} (h : ∀ W, Sep w (E ++ base) W → Q .normal a W) : wpSeqS P w base ops Q [] a E := h
theorem wpList_of_sym : ∀ (l : List Oper) (a : Act) (E : List Res) (W : World), Sep w (E ++ base) W → wpSeqS P w base ops Q l a E → wpList P ops Q l a W
 | [], _, _, W, hW, h => h W hW
 | o :: l, a, E, W, hW, hh => by
  unfold wpSeqS at hh
  unfold wpList
  split
  ·
   rename_i hw
   simp only [hw, if_true] at hh
   obtain ⟨Φ, h1, h2⟩ := hh
   refine .inl ?_
   have h3 := h1 W hW
   unfold Oper.wp
   generalize (execOp a.eval o).run P W = r at *
   cases r with
   | ok n w' =>
    cases n <;> simp only [symUpon] at h3 <;> simp only [Oper.upon]
    case value u => obtain ⟨E', e1, e2⟩ := h3; exact wpList_of_sym l _ _ _ e2 (h2 _ _ e1)
    case skip => obtain ⟨E', e1, e2⟩ := h3; exact wpList_of_sym l _ _ _ e2 (h2 _ _ e1)
    case enter f args => exact h3.mono fun e w'' ⟨v, he, E', e1, e2⟩ => by subst he; exact wpList_of_sym l _ _ _ e2 (h2 _ _ e1)
   | halt x w' => simp only [symUpon] at h3
  ·
   rename_i hw; simp only [hw] at hh; exact wpList_of_sym l _ _ _ hW hh
theorem regionL {id : Nat} {a : Act} {W : World} {E : List Res} (S : Sep w (E ++ base) W) (h : wpSeqS P w base ops Q ops.toList a E) : (Code.region id ops false).wp P Q a W :=
 wp_region_list (wpList_of_sym _ _ _ _ S h)
theorem quietL {o : Oper} {rest : List Oper} {v : Value} {a : Act} {E : List Res}
  (h : wpSeqS P w base ops Q rest (a.put o.dst v) E)
  (hy : (∀ E W, Sep w (E ++ base) W → symUpon P (fun u W' => u = v ∧ Sep w (E ++ base) W') ((execOp a.eval o).run P W)) := by intro E Wx hSw; go_simp; exact ⟨rfl, hSw⟩) (hw : Region.wanted o (yielded ops a.tmps) = true := by rfl) : wpSeqS P w base ops Q (o :: rest) a E := by
 unfold wpSeqS; rw [if_pos hw]
 exact ⟨fun u E' => u = v ∧ E' = E, fun W hW => (hy E W hW).mono fun u W' ⟨e1, e2⟩ => ⟨E, ⟨e1, rfl⟩, e2⟩, fun u E' ⟨e1, e2⟩ => by subst e1 e2; exact h⟩
theorem skipL {o : Oper} {rest : List Oper} {a : Act} {E : List Res}
  (h : wpSeqS P w base ops Q rest (a.put o.dst undef) E) (hw : Region.wanted o (yielded ops a.tmps) = false := by rfl) : wpSeqS P w base ops Q (o :: rest) a E := by
 unfold wpSeqS; rw [if_neg (by rw [hw]; exact Bool.false_ne_true)]; exact h
theorem stepL {o : Oper} {rest : List Oper} {a : Act} {E : List Res} (Φ : Value → List Res → Prop)
  (h1 : SymAt P w base o a E Φ) (h2 : ∀ v E', Φ v E' → wpSeqS P w base ops Q rest (a.put o.dst v) E') (hw : Region.wanted o (yielded ops a.tmps) = true := by rfl) : wpSeqS P w base ops Q (o :: rest) a E := by
 unfold wpSeqS; rw [if_pos hw]; exact ⟨Φ, h1, h2⟩
theorem detL {o : Oper} {rest : List Oper} {a : Act} {E : List Res} (v : Value) (E' : List Res)
  (h1 : ∀ W, Sep w (E ++ base) W → symUpon P (fun u W' => u = v ∧ Sep w (E' ++ base) W') ((execOp a.eval o).run P W))
  (h2 : wpSeqS P w base ops Q rest (a.put o.dst v) E') (hw : Region.wanted o (yielded ops a.tmps) = true := by rfl) : wpSeqS P w base ops Q (o :: rest) a E :=
 stepL (fun u E1 => u = v ∧ E1 = E') (fun W hW => (h1 W hW).mono fun u W' ⟨e1, e2⟩ => ⟨E', ⟨e1, rfl⟩, e2⟩) (fun u E1 ⟨e1, e2⟩ => by subst e1 e2; exact h2) hw
theorem allocL {o : Oper} {rest : List Oper} {a : Act} {E : List Res} (j : Nat) (hj : E[j]? = some emptyR) (f : Nat → Value) (obj : Obj)
  (h1 : ∀ W, (execOp a.eval o).run P W = .ok (.value (f W.heap.size)) (W.alloc obj))
  (h2 : ∀ q, wpSeqS P w base ops Q rest (a.put o.dst (f q)) (E.set j (boxR q obj))) (hw : Region.wanted o (yielded ops a.tmps) = true := by rfl) : wpSeqS P w base ops Q (o :: rest) a E :=
 stepL (fun v E' => ∃ q, v = f q ∧ E' = E.set j (boxR q obj)) (fun W hW => by
  rw [h1 W]
  have h := hW.fillE (o := obj) (j := j) (by rw [List.getElem?_append_left (List.getElem?_eq_some_iff.1 hj).1]; exact hj)
  rw [List.set_append_left _ _ (List.getElem?_eq_some_iff.1 hj).1] at h
  exact ⟨_, ⟨_, rfl, rfl⟩, h⟩) (fun v E' ⟨q, e1, e2⟩ => by subst e1 e2; exact h2 q) hw
end
end Go.Proofs.YtijlebhoapdfnaaGreat
/- The first so many operations, where all of them are quiet: in the text's order, checked at once. -/
namespace Go.Proofs.YtijlebhoapdfnaaGreat
set_option linter.unusedSimpArgs false
open Go Go.RowKit
set_option linter.unusedVariables false
section
variable {P : Program} {ops : Array Oper} {Q : Exit → Act → World → Prop} {md : Region.Mode} {w : World} {base : List Res}
def wpPreS (P : Program) (w : World) (base : List Res) (ops : Array Oper) (K : Act → Prop) : Nat → List Oper → Act → Prop
 | 0, _, a => K a
 | _ + 1, [], a => K a
 | n + 1, o :: rest, a => if Region.wanted o (yielded ops a.tmps) then ∃ v, (∀ E W, Sep w (E ++ base) W → symUpon P (fun u W' => u = v ∧ Sep w (E ++ base) W') ((execOp a.eval o).run P W)) ∧ wpPreS P w base ops K n rest (a.put o.dst v) else wpPreS P w base ops K n rest (a.put o.dst undef)
def preB (md : Region.Mode) (ops : Array Oper) : Nat → Nat → Array Bool → Bool
 | 0, _, _ => true
 | n + 1, k, listed => (Region.ready md ops listed).contains k && Region.free md ops listed k && preB md ops n (k + 1) (listed.setIfInBounds k true)
def setTo : Nat → Nat → Array Bool → Array Bool
 | 0, _, listed => listed
 | n + 1, k, listed => setTo n (k + 1) (listed.setIfInBounds k true)
theorem wpPre_any (hs : Region.noSelect ops = true) {E : List Res} {f : Nat} : ∀ (n : Nat) (l : List Oper) (k : Nat) (listed : Array Bool) (a : Act), (∀ j, l[j]? = ops[k + j]?) → n ≤ l.length →
  preB md ops n k listed = true → wpPreS P w base ops (fun a' => wpAnyS P w base md ops Q f (setTo n k listed) a' E) n l a → wpAnyS P w base md ops Q (n + f) listed a E
 | 0, l, k, listed, a, hl, hn, hB, h => by rw [Nat.zero_add]; exact h
 | n + 1, [], k, listed, a, hl, hn, hB, h => by simp at hn
 | n + 1, o :: l, k, listed, a, hl, hn, hB, h => by
  have h0 : ops[k]? = some o := by simpa using (hl 0).symm
  simp only [preB, Bool.and_eq_true] at hB
  obtain ⟨⟨hr, hf⟩, hB'⟩ := hB
  have ih := fun a' => wpPre_any hs (E := E) (f := f) n l (k + 1) (listed.setIfInBounds k true) a' (fun j => by have := hl (j + 1); simpa [Nat.add_assoc, Nat.add_comm 1 j] using this) (by simpa using hn) hB'
  rw [show n + 1 + f = (n + f) + 1 by omega]
  unfold wpPreS at h
  by_cases hw : Region.wanted o (yielded ops a.tmps) = true
  ·
   rw [if_pos hw] at h
   obtain ⟨v, h1, h2⟩ := h
   exact wpAnyS_first h0 (Region.noSelect_spec hs) _ listed a E (Region.free_spec h0 hf) (by simpa using hr) (.inl ⟨hw, h1⟩) (ih _ h2)
  ·
   rw [if_neg hw] at h
   exact wpAnyS_first h0 (Region.noSelect_spec hs) _ listed a E (Region.free_spec h0 hf) (by simpa using hr) (.inr ⟨by simpa using hw, rfl⟩) (ih _ h)
/-- A region that draws: its first n operations are quiet. -/
theorem regionP (n f : Nat) {id : Nat} {l : List Oper} {a : Act} {W : World} {E : List Res} (S : Sep w (E ++ base) W)
  (h : wpPreS P w base l.toArray (fun a' => wpAnyS P w base .any l.toArray Q f (setTo n 0 (Array.replicate l.length false)) a' E) n l a)
  (hn : n + f = l.length := by rfl) (hs : Region.noSelect l.toArray = true := by kernel_rfl) (hB : preB .any l.toArray n 0 (Array.replicate l.length false) = true := by kernel_rfl) (hm : P.follows .mixedOrders = true := by kernel_rfl) : (Code.region id l.toArray true).wp P Q a W := by
 have h1 := wpPre_any (md := .any) hs (E := E) (f := f) n l 0 (Array.replicate l.length false) a (by simp) (by omega) hB h
 rw [hn] at h1
 refine wp_region_any hm (wpAny_of_sym _ _ _ E W.drew S.drew ?_)
 simpa using h1
theorem quietP {K : Act → Prop} {n : Nat} {o : Oper} {rest : List Oper} {v : Value} {a : Act}
  (h : wpPreS P w base ops K n rest (a.put o.dst v))
  (hy : (∀ E W, Sep w (E ++ base) W → symUpon P (fun u W' => u = v ∧ Sep w (E ++ base) W') ((execOp a.eval o).run P W)) := by intro E Wx hSw; go_simp; exact ⟨rfl, hSw⟩) (hw : Region.wanted o (yielded ops a.tmps) = true := by rfl) : wpPreS P w base ops K (n + 1) (o :: rest) a := by
 unfold wpPreS; rw [if_pos hw]; exact ⟨v, hy, h⟩
theorem skipP {K : Act → Prop} {n : Nat} {o : Oper} {rest : List Oper} {a : Act}
  (h : wpPreS P w base ops K n rest (a.put o.dst undef)) (hw : Region.wanted o (yielded ops a.tmps) = false := by rfl) : wpPreS P w base ops K (n + 1) (o :: rest) a := by
 unfold wpPreS; rw [if_neg (by rw [hw]; exact Bool.false_ne_true)]; exact h
theorem endP {K : Act → Prop} {rest : List Oper} {a : Act} (h : K a) : wpPreS P w base ops K 0 rest a := h
end
end Go.Proofs.YtijlebhoapdfnaaGreat
/- Lists in another order. -/
namespace Go.Proofs.YtijlebhoapdfnaaGreat
set_option linter.unusedSimpArgs false
open Go Go.RowKit
theorem perm_pull {α : Type} {l : List α} {i : Nat} {a : α} (hi : l[i]? = some a) : l.Perm (a :: l.eraseIdx i) := by
 obtain ⟨hlt, he⟩ := List.getElem?_eq_some_iff.1 hi
 rw [List.eraseIdx_eq_take_drop_succ]
 conv => lhs; rw [show l = l.take i ++ a :: l.drop (i + 1) by rw [← he, List.getElem_cons_drop, List.take_append_drop]]
 exact List.perm_middle
theorem perm_push {α : Type} {l : List α} {i : Nat} {a b : α} (hi : l[i]? = some a) : (l.set i b).Perm (b :: l.eraseIdx i) := by
 obtain ⟨hlt, he⟩ := List.getElem?_eq_some_iff.1 hi
 rw [List.eraseIdx_eq_take_drop_succ, List.set_eq_take_append_cons_drop, if_pos hlt]
 exact List.perm_middle
theorem set_same {α : Type} {l : List α} {i : Nat} {a : α} (hi : l[i]? = some a) : l.set i a = l := by
 obtain ⟨h1, e1⟩ := List.getElem?_eq_some_iff.1 hi
 rw [← e1]; exact List.set_getElem_self h1
/-- The things at these places. -/
theorem range_pick {α : Type} : ∀ (l pre : List α), (List.range' pre.length l.length).filterMap (fun i => (pre ++ l)[i]?) = l
 | [], pre => rfl
 | a :: l, pre => by
  rw [List.length_cons, List.range'_succ, List.filterMap_cons]
  have h0 : (pre ++ a :: l)[pre.length]? = some a := by simp
  rw [h0]
  have h := range_pick l (pre ++ [a])
  rw [List.length_append, List.length_singleton, List.append_assoc, List.singleton_append] at h
  rw [h]
theorem perm_of {α : Type} {l m : List α} (idx : List Nat) (hp : (List.range' 0 l.length).Perm idx) (hm : idx.filterMap (fun i => l[i]?) = m) : l.Perm m := by
 subst hm
 have h := hp.filterMap (fun i => l[i]?)
 have e := range_pick l []
 simp only [List.length_nil, List.nil_append] at e
 rwa [e] at h
theorem symAppend {P : Program} {o : Oper} {a : Act} {W : World} (s x : Operand) (t tn : TypeId) (ho : o.op = .call { callee := .builtin .append, args := #[s, x], argTypes := #[t, tn] }) (vs vx : Value) (hs : a.eval s = vs) (hx : a.eval x = vx)
  {v' : Value} {w' : World} {R : Value → World → Prop} (hr : (Builtin.append_ #[t, tn] o.type #[vs, vx]).run P W = .ok v' w') (h : R v' w') : symUpon P R ((execOp a.eval o).run P W) := by
 unfold execOp
 simp only [ho, resolve, invoke, builtin, Sem.run_bind, Sem.run_pure, Result.andThen_ok, List.map_toArray, List.map_cons, List.map_nil, hs, hx, hr]
 exact h
theorem pa (l : List Value) (i : Nat) (v : Value) : l.toArray.setIfInBounds i v = (l.set i v).toArray := by simp
/-- A thing by a name (cheaper than obtain where the goal is great). -/
theorem named {α : Type _} (x : α) {p : Prop} (h : ∀ b, b = x → p) : p := h x rfl
/-- The cells of a block, one by one. -/
theorem useZ3 {W : World} {b : Nat} {u0 u1 u2 : Value} {t : TypeId} {p : Prop} (h : W.heap[b]? = some (.cells #[u0, u1, u2] t))
  (k : W.cell? ⟨b, 0, none⟩ = some u0 → W.cell? ⟨b, 1, none⟩ = some u1 → W.cell? ⟨b, 2, none⟩ = some u2 → W.frozen? ⟨b, 0, none⟩ = false → W.frozen? ⟨b, 1, none⟩ = false → W.frozen? ⟨b, 2, none⟩ = false → p) : p :=
 k (cellAt h 0 rfl) (cellAt h 1 rfl) (cellAt h 2 rfl) (frozenAt h 0) (frozenAt h 1) (frozenAt h 2)
theorem useZ5 {W : World} {b : Nat} {u0 u1 u2 u3 u4 : Value} {t : TypeId} {p : Prop} (h : W.heap[b]? = some (.cells #[u0, u1, u2, u3, u4] t))
  (k : W.cell? ⟨b, 0, none⟩ = some u0 → W.cell? ⟨b, 1, none⟩ = some u1 → W.cell? ⟨b, 2, none⟩ = some u2 → W.cell? ⟨b, 3, none⟩ = some u3 → W.cell? ⟨b, 4, none⟩ = some u4 →
   W.frozen? ⟨b, 0, none⟩ = false → W.frozen? ⟨b, 1, none⟩ = false → W.frozen? ⟨b, 2, none⟩ = false → W.frozen? ⟨b, 3, none⟩ = false → W.frozen? ⟨b, 4, none⟩ = false → p) : p :=
 k (cellAt h 0 rfl) (cellAt h 1 rfl) (cellAt h 2 rfl) (cellAt h 3 rfl) (cellAt h 4 rfl) (frozenAt h 0) (frozenAt h 1) (frozenAt h 2) (frozenAt h 3) (frozenAt h 4)
theorem useR3 {W : World} {b : Nat} {u0 u1 u2 : Value} {t : TypeId} {p : Prop} (h : W.heap[b]? = some (.cells #[u0, u1, u2] t))
  (k : W.cell? ⟨b, 0, none⟩ = some u0 → W.cell? ⟨b, 1, none⟩ = some u1 → W.cell? ⟨b, 2, none⟩ = some u2 → p) : p :=
 k (cellAt h 0 rfl) (cellAt h 1 rfl) (cellAt h 2 rfl)
theorem useR5 {W : World} {b : Nat} {u0 u1 u2 u3 u4 : Value} {t : TypeId} {p : Prop} (h : W.heap[b]? = some (.cells #[u0, u1, u2, u3, u4] t))
  (k : W.cell? ⟨b, 0, none⟩ = some u0 → W.cell? ⟨b, 1, none⟩ = some u1 → W.cell? ⟨b, 2, none⟩ = some u2 → W.cell? ⟨b, 3, none⟩ = some u3 → W.cell? ⟨b, 4, none⟩ = some u4 → p) : p :=
 k (cellAt h 0 rfl) (cellAt h 1 rfl) (cellAt h 2 rfl) (cellAt h 3 rfl) (cellAt h 4 rfl)
theorem and2 {a b p : Prop} (h : a ∧ b) (k : a → b → p) : p := k h.1 h.2
theorem and3 {a b c p : Prop} (h : a ∧ b ∧ c) (k : a → b → c → p) : p := k h.1 h.2.1 h.2.2
theorem and5 {a b c d e p : Prop} (h : a ∧ b ∧ c ∧ d ∧ e) (k : a → b → c → d → e → p) : p := k h.1 h.2.1 h.2.2.1 h.2.2.2.1 h.2.2.2.2
/-- A place of a list behind another one. -/
theorem atR {Q L : List Res} {j : Nat} {r : Res} (h : L[j]? = some r) : (Q ++ L)[Q.length + j]? = some r := by
 rw [List.getElem?_append_right (by omega), Nat.add_sub_cancel_left]; exact h
theorem atI1 {Q Rs : List Res} {a r : Res} {i : Nat} (h : Rs[i]? = some r) : (Q ++ a :: Rs)[Q.length + 1 + i]? = some r := by
 rw [Nat.add_assoc, Nat.add_comm 1]; exact atR (by simpa using h)
theorem atI2 {Q Rs : List Res} {a b r : Res} {i : Nat} (h : Rs[i]? = some r) : (Q ++ a :: b :: Rs)[Q.length + 2 + i]? = some r := by
 rw [Nat.add_assoc, Nat.add_comm 2]; exact atR (by simpa using h)
theorem baseC3 {w : World} {base L : List Res} {b : Nat} {v0 v1 v2 : Value} {t : TypeId} (hb : base = L) (j : Nat) (hj : L[j]? = some (boxR b (.cells #[v0, v1, v2] t))) :
  Hid (∀ W (Q : List Res), Sep w (Q ++ base) W → W.cell? ⟨b, 0, none⟩ = some v0 ∧ W.cell? ⟨b, 1, none⟩ = some v1 ∧ W.cell? ⟨b, 2, none⟩ = some v2) := Lib.hid fun W Q T => by
 rw [hb] at T
 have i0 := T.box (b := b) (Q.length + j) (atR hj)
 exact ⟨cellAt i0 0 rfl, cellAt i0 1 rfl, cellAt i0 2 rfl⟩
theorem baseC5 {w : World} {base L : List Res} {b : Nat} {v0 v1 v2 v3 v4 : Value} {t : TypeId} (hb : base = L) (j : Nat) (hj : L[j]? = some (boxR b (.cells #[v0, v1, v2, v3, v4] t))) :
  Hid (∀ W (Q : List Res), Sep w (Q ++ base) W → W.cell? ⟨b, 0, none⟩ = some v0 ∧ W.cell? ⟨b, 1, none⟩ = some v1 ∧ W.cell? ⟨b, 2, none⟩ = some v2 ∧ W.cell? ⟨b, 3, none⟩ = some v3 ∧ W.cell? ⟨b, 4, none⟩ = some v4) := Lib.hid fun W Q T => by
 rw [hb] at T
 have i0 := T.box (b := b) (Q.length + j) (atR hj)
 exact ⟨cellAt i0 0 rfl, cellAt i0 1 rfl, cellAt i0 2 rfl, cellAt i0 3 rfl, cellAt i0 4 rfl⟩
/-- A call that leaves all, whatever lies beside the base. -/
abbrev QuietC (w : World) (base : List Res) (f : FuncId) (args : Array Value) (v : Value) : Prop := Hid (∀ W (Q : List Res), Sep w (Q ++ base) W → Calls Tryz.prog f args W fun e W' => e = .returned v ∧ Sep w (Q ++ base) W')
theorem liftC {w : World} {base new M : List Res} {p : World → Prop} (hb : Hid (new = M ++ base)) (C : Hid (∀ W (Q : List Res), Sep w (Q ++ base) W → p W)) : Hid (∀ W (Q : List Res), Sep w (Q ++ new) W → p W) :=
 Lib.hid fun W Q T => C.out W (Q ++ M) (by rw [hb.out, ← List.append_assoc] at T; exact T)
theorem liftK {w : World} {base new M : List Res} {f : FuncId} {args : Array Value} {v : Value} (hb : Hid (new = M ++ base)) (K : QuietC w base f args v) : QuietC w new f args v :=
 Lib.hid fun W Q T => by
  rw [hb.out, ← List.append_assoc] at T ⊢
  exact K.out W (Q ++ M) T
abbrev hpV (h : Nat) : Value := .pointer (some ⟨h, 0, none⟩)
abbrev agV (x : V) : Value := .agg #[.int .i64 x.kind, .int .i64 x.n, .string x.s]
section
variable {P : Program} {ops : Array Oper} {Q : Exit → Act → World → Prop} {md : Region.Mode} {w : World} {base : List Res}
theorem quietLC {o : Oper} {rest : List Oper} {v : Value} {a : Act} {E : List Res} {p : World → Prop} (C : Hid (∀ W (Q : List Res), Sep w (Q ++ base) W → p W))
  (h : wpSeqS P w base ops Q rest (a.put o.dst v) E)
  (hy : (∀ E W, Sep w (E ++ base) W → p W → symUpon P (fun u W' => u = v ∧ Sep w (E ++ base) W') ((execOp a.eval o).run P W)) := by intro E Wx hSw u; (first | refine and5 u fun u0 u1 u2 u3 u4 => ?_ | refine and3 u fun u0 u1 u2 => ?_ | refine and2 u fun u0 u1 => ?_ | skip); go_simp; exact ⟨rfl, hSw⟩)
  (hw : Region.wanted o (yielded ops a.tmps) = true := by rfl) : wpSeqS P w base ops Q (o :: rest) a E := quietL h (fun E W h => hy E W h (C.out W E h)) hw
theorem quietLK {o : Oper} {rest : List Oper} {v : Value} {a : Act} {E : List Res} {f : FuncId} {args : Array Value} (K : Hid (∀ W (Q : List Res), Sep w (Q ++ base) W → Calls P f args W fun e W' => e = .returned v ∧ Sep w (Q ++ base) W'))
  (h : wpSeqS P w base ops Q rest (a.put o.dst v) E)
  (hy : (∀ E W, Sep w (E ++ base) W → Calls P f args W (fun e W' => e = .returned v ∧ Sep w (E ++ base) W') → symUpon P (fun u W' => u = v ∧ Sep w (E ++ base) W') ((execOp a.eval o).run P W)) := by intro E Wx hSw u; go_simp; exact symCall u)
  (hw : Region.wanted o (yielded ops a.tmps) = true := by rfl) : wpSeqS P w base ops Q (o :: rest) a E := quietL h (fun E W h => hy E W h (K.out W E h)) hw
theorem quietPC {K_ : Act → Prop} {n : Nat} {o : Oper} {rest : List Oper} {v : Value} {a : Act} {p : World → Prop} (C : Hid (∀ W (Q : List Res), Sep w (Q ++ base) W → p W))
  (h : wpPreS P w base ops K_ n rest (a.put o.dst v))
  (hy : (∀ E W, Sep w (E ++ base) W → p W → symUpon P (fun u W' => u = v ∧ Sep w (E ++ base) W') ((execOp a.eval o).run P W)) := by intro E Wx hSw u; (first | refine and5 u fun u0 u1 u2 u3 u4 => ?_ | refine and3 u fun u0 u1 u2 => ?_ | refine and2 u fun u0 u1 => ?_ | skip); go_simp; exact ⟨rfl, hSw⟩)
  (hw : Region.wanted o (yielded ops a.tmps) = true := by rfl) : wpPreS P w base ops K_ (n + 1) (o :: rest) a := quietP h (fun E W h => hy E W h (C.out W E h)) hw
theorem quietPK {K_ : Act → Prop} {n : Nat} {o : Oper} {rest : List Oper} {v : Value} {a : Act} {f : FuncId} {args : Array Value} (K : Hid (∀ W (Q : List Res), Sep w (Q ++ base) W → Calls P f args W fun e W' => e = .returned v ∧ Sep w (Q ++ base) W'))
  (h : wpPreS P w base ops K_ n rest (a.put o.dst v))
  (hy : (∀ E W, Sep w (E ++ base) W → Calls P f args W (fun e W' => e = .returned v ∧ Sep w (E ++ base) W') → symUpon P (fun u W' => u = v ∧ Sep w (E ++ base) W') ((execOp a.eval o).run P W)) := by intro E Wx hSw u; go_simp; exact symCall u)
  (hw : Region.wanted o (yielded ops a.tmps) = true := by rfl) : wpPreS P w base ops K_ (n + 1) (o :: rest) a := quietP h (fun E W h => hy E W h (K.out W E h)) hw
theorem quietSC (i : Nat) {oi : Oper} {v : Value} {fuel : Nat} {listed : Array Bool} {a : Act} {E : List Res} {p : World → Prop} (C : Hid (∀ W (Q : List Res), Sep w (Q ++ base) W → p W))
  (h : wpAnyS P w base md ops Q fuel (listed.setIfInBounds i true) (a.put oi.dst v) E)
  (hi : ops[i]? = some oi := by simp only [List.getElem?_toArray, List.getElem?_cons_succ, List.getElem?_cons_zero]; rfl)
  (hy : (∀ E W, Sep w (E ++ base) W → p W → symUpon P (fun u W' => u = v ∧ Sep w (E ++ base) W') ((execOp a.eval oi).run P W)) := by intro E Wx hSw u; (first | refine and5 u fun u0 u1 u2 u3 u4 => ?_ | refine and3 u fun u0 u1 u2 => ?_ | refine and2 u fun u0 u1 => ?_ | skip); go_simp; exact ⟨rfl, hSw⟩)
  (hs : Region.noSelect ops = true := by kernel_rfl) (hf : Region.free md ops listed i = true := by kernel_rfl) (hr : (Region.ready md ops listed).contains i = true := by kernel_rfl)
  (hw : Region.wanted oi (yielded ops a.tmps) = true := by rfl) : wpAnyS P w base md ops Q (fuel + 1) listed a E := quietS i h hi (fun E W h => hy E W h (C.out W E h)) hs hf hr hw
end
end Go.Proofs.YtijlebhoapdfnaaGreat
/- The steps of a symbolic run, each with the frame as it is behind it. -/
namespace Go.Proofs.YtijlebhoapdfnaaGreat
set_option linter.unusedSimpArgs false
open Go Go.RowKit
set_option linter.unusedVariables false
section
variable {P : Program} {ops : Array Oper} {Q : Exit → Act → World → Prop} {md : Region.Mode} {w : World} {base : List Res}
theorem qa {b : Act} {o : Oper} {rest : List Oper} {v : Value} {a : Act} {E : List Res}
  (h : wpSeqS P w base ops Q rest b E)
  (hy : (∀ E W, Sep w (E ++ base) W → symUpon P (fun u W' => u = v ∧ Sep w (E ++ base) W') ((execOp a.eval o).run P W)) := by intro E Wx hSw; go_simp; exact ⟨rfl, hSw⟩) (ha : ∀ p : Act → Prop, p b → p (a.put o.dst v) := by intro p hp; simp only [Act.put, pa]; (try dsimp only [List.set]); exact hp) (hw : Region.wanted o (yielded ops a.tmps) = true := by rfl) : wpSeqS P w base ops Q (o :: rest) a E := quietL (ha (fun a => wpSeqS P w base ops Q rest a E) h) hy hw
theorem qz {b : Act} {o : Oper} {rest : List Oper} {a : Act} {E : List Res}
  (h : wpSeqS P w base ops Q rest b E) (ha : ∀ p : Act → Prop, p b → p (a.put o.dst undef) := by intro p hp; simp only [Act.put, pa]; (try dsimp only [List.set]); exact hp) (hw : Region.wanted o (yielded ops a.tmps) = false := by rfl) : wpSeqS P w base ops Q (o :: rest) a E := skipL (ha (fun a => wpSeqS P w base ops Q rest a E) h) hw
theorem qd {b : Act} {o : Oper} {rest : List Oper} {a : Act} {E : List Res} (v : Value) (E' : List Res)
  (h1 : ∀ W, Sep w (E ++ base) W → symUpon P (fun u W' => u = v ∧ Sep w (E' ++ base) W') ((execOp a.eval o).run P W))
  (h2 : wpSeqS P w base ops Q rest b E') (ha : ∀ p : Act → Prop, p b → p (a.put o.dst v) := by intro p hp; simp only [Act.put, pa]; (try dsimp only [List.set]); exact hp) (hw : Region.wanted o (yielded ops a.tmps) = true := by rfl) : wpSeqS P w base ops Q (o :: rest) a E := detL v E' h1 (ha (fun a => wpSeqS P w base ops Q rest a E') h2) hw
theorem qp {b : Act} {K : Act → Prop} {n : Nat} {o : Oper} {rest : List Oper} {v : Value} {a : Act}
  (h : wpPreS P w base ops K n rest b)
  (hy : (∀ E W, Sep w (E ++ base) W → symUpon P (fun u W' => u = v ∧ Sep w (E ++ base) W') ((execOp a.eval o).run P W)) := by intro E Wx hSw; go_simp; exact ⟨rfl, hSw⟩) (ha : ∀ p : Act → Prop, p b → p (a.put o.dst v) := by intro p hp; simp only [Act.put, pa]; (try dsimp only [List.set]); exact hp) (hw : Region.wanted o (yielded ops a.tmps) = true := by rfl) : wpPreS P w base ops K (n + 1) (o :: rest) a := quietP (ha (fun a => wpPreS P w base ops K n rest a) h) hy hw
theorem qpz {b : Act} {K : Act → Prop} {n : Nat} {o : Oper} {rest : List Oper} {a : Act}
  (h : wpPreS P w base ops K n rest b) (ha : ∀ p : Act → Prop, p b → p (a.put o.dst undef) := by intro p hp; simp only [Act.put, pa]; (try dsimp only [List.set]); exact hp) (hw : Region.wanted o (yielded ops a.tmps) = false := by rfl) : wpPreS P w base ops K (n + 1) (o :: rest) a := skipP (ha (fun a => wpPreS P w base ops K n rest a) h) hw
theorem qs {b : Act} (i : Nat) {oi : Oper} {v : Value} {fuel : Nat} {listed : Array Bool} {a : Act} {E : List Res}
  (h : wpAnyS P w base md ops Q fuel (listed.setIfInBounds i true) b E)
  (hi : ops[i]? = some oi := by simp only [List.getElem?_toArray, List.getElem?_cons_succ, List.getElem?_cons_zero]; rfl)
  (hy : (∀ E W, Sep w (E ++ base) W → symUpon P (fun u W' => u = v ∧ Sep w (E ++ base) W') ((execOp a.eval oi).run P W)) := by intro E Wx hSw; go_simp; exact ⟨rfl, hSw⟩)
  (ha : ∀ p : Act → Prop, p b → p (a.put oi.dst v) := by intro p hp; simp only [Act.put, pa]; (try dsimp only [List.set]); exact hp) (hs : Region.noSelect ops = true := by kernel_rfl) (hf : Region.free md ops listed i = true := by kernel_rfl) (hr : (Region.ready md ops listed).contains i = true := by kernel_rfl)
  (hw : Region.wanted oi (yielded ops a.tmps) = true := by rfl) : wpAnyS P w base md ops Q (fuel + 1) listed a E := quietS i (ha (fun a => wpAnyS P w base md ops Q fuel (listed.setIfInBounds i true) a E) h) hi hy hs hf hr hw
theorem qc {b : Act} {o : Oper} {rest : List Oper} {v : Value} {a : Act} {E : List Res} {p : World → Prop} (C : Hid (∀ W (Q : List Res), Sep w (Q ++ base) W → p W))
  (h : wpSeqS P w base ops Q rest b E)
  (hy : (∀ E W, Sep w (E ++ base) W → p W → symUpon P (fun u W' => u = v ∧ Sep w (E ++ base) W') ((execOp a.eval o).run P W)) := by intro E Wx hSw u; (first | refine and5 u fun u0 u1 u2 u3 u4 => ?_ | refine and3 u fun u0 u1 u2 => ?_ | refine and2 u fun u0 u1 => ?_ | skip); go_simp; exact ⟨rfl, hSw⟩)
  (ha : ∀ p : Act → Prop, p b → p (a.put o.dst v) := by intro p hp; simp only [Act.put, pa]; (try dsimp only [List.set]); exact hp) (hw : Region.wanted o (yielded ops a.tmps) = true := by rfl) : wpSeqS P w base ops Q (o :: rest) a E := quietLC C (ha (fun a => wpSeqS P w base ops Q rest a E) h) hy hw
theorem qk {b : Act} {o : Oper} {rest : List Oper} {v : Value} {a : Act} {E : List Res} {f : FuncId} {args : Array Value} (K : Hid (∀ W (Q : List Res), Sep w (Q ++ base) W → Calls P f args W fun e W' => e = .returned v ∧ Sep w (Q ++ base) W'))
  (h : wpSeqS P w base ops Q rest b E)
  (hy : (∀ E W, Sep w (E ++ base) W → Calls P f args W (fun e W' => e = .returned v ∧ Sep w (E ++ base) W') → symUpon P (fun u W' => u = v ∧ Sep w (E ++ base) W') ((execOp a.eval o).run P W)) := by intro E Wx hSw u; go_simp; exact symCall u)
  (ha : ∀ p : Act → Prop, p b → p (a.put o.dst v) := by intro p hp; simp only [Act.put, pa]; (try dsimp only [List.set]); exact hp) (hw : Region.wanted o (yielded ops a.tmps) = true := by rfl) : wpSeqS P w base ops Q (o :: rest) a E := quietLK K (ha (fun a => wpSeqS P w base ops Q rest a E) h) hy hw
theorem qpc {b : Act} {K_ : Act → Prop} {n : Nat} {o : Oper} {rest : List Oper} {v : Value} {a : Act} {p : World → Prop} (C : Hid (∀ W (Q : List Res), Sep w (Q ++ base) W → p W))
  (h : wpPreS P w base ops K_ n rest b)
  (hy : (∀ E W, Sep w (E ++ base) W → p W → symUpon P (fun u W' => u = v ∧ Sep w (E ++ base) W') ((execOp a.eval o).run P W)) := by intro E Wx hSw u; (first | refine and5 u fun u0 u1 u2 u3 u4 => ?_ | refine and3 u fun u0 u1 u2 => ?_ | refine and2 u fun u0 u1 => ?_ | skip); go_simp; exact ⟨rfl, hSw⟩)
  (ha : ∀ p : Act → Prop, p b → p (a.put o.dst v) := by intro p hp; simp only [Act.put, pa]; (try dsimp only [List.set]); exact hp) (hw : Region.wanted o (yielded ops a.tmps) = true := by rfl) : wpPreS P w base ops K_ (n + 1) (o :: rest) a := quietPC C (ha (fun a => wpPreS P w base ops K_ n rest a) h) hy hw
theorem qpk {b : Act} {K_ : Act → Prop} {n : Nat} {o : Oper} {rest : List Oper} {v : Value} {a : Act} {f : FuncId} {args : Array Value} (K : Hid (∀ W (Q : List Res), Sep w (Q ++ base) W → Calls P f args W fun e W' => e = .returned v ∧ Sep w (Q ++ base) W'))
  (h : wpPreS P w base ops K_ n rest b)
  (hy : (∀ E W, Sep w (E ++ base) W → Calls P f args W (fun e W' => e = .returned v ∧ Sep w (E ++ base) W') → symUpon P (fun u W' => u = v ∧ Sep w (E ++ base) W') ((execOp a.eval o).run P W)) := by intro E Wx hSw u; go_simp; exact symCall u)
  (ha : ∀ p : Act → Prop, p b → p (a.put o.dst v) := by intro p hp; simp only [Act.put, pa]; (try dsimp only [List.set]); exact hp) (hw : Region.wanted o (yielded ops a.tmps) = true := by rfl) : wpPreS P w base ops K_ (n + 1) (o :: rest) a := quietPK K (ha (fun a => wpPreS P w base ops K_ n rest a) h) hy hw
theorem qsc {b : Act} (i : Nat) {oi : Oper} {v : Value} {fuel : Nat} {listed : Array Bool} {a : Act} {E : List Res} {p : World → Prop} (C : Hid (∀ W (Q : List Res), Sep w (Q ++ base) W → p W))
  (h : wpAnyS P w base md ops Q fuel (listed.setIfInBounds i true) b E)
  (hi : ops[i]? = some oi := by simp only [List.getElem?_toArray, List.getElem?_cons_succ, List.getElem?_cons_zero]; rfl)
  (hy : (∀ E W, Sep w (E ++ base) W → p W → symUpon P (fun u W' => u = v ∧ Sep w (E ++ base) W') ((execOp a.eval oi).run P W)) := by intro E Wx hSw u; (first | refine and5 u fun u0 u1 u2 u3 u4 => ?_ | refine and3 u fun u0 u1 u2 => ?_ | refine and2 u fun u0 u1 => ?_ | skip); go_simp; exact ⟨rfl, hSw⟩)
  (ha : ∀ p : Act → Prop, p b → p (a.put oi.dst v) := by intro p hp; simp only [Act.put, pa]; (try dsimp only [List.set]); exact hp) (hs : Region.noSelect ops = true := by kernel_rfl) (hf : Region.free md ops listed i = true := by kernel_rfl) (hr : (Region.ready md ops listed).contains i = true := by kernel_rfl)
  (hw : Region.wanted oi (yielded ops a.tmps) = true := by rfl) : wpAnyS P w base md ops Q (fuel + 1) listed a E := quietSC i C (ha (fun a => wpAnyS P w base md ops Q fuel (listed.setIfInBounds i true) a E) h) hi hy hs hf hr hw
end
/-- A function's boxes: what changes ahead, what is only read in the base. -/
theorem enterP {w W : World} {all E B Rs bA : List Res} (S : Sep w (all ++ Rs) W) (hb : bA = B ++ Rs) (hp : all.Perm (E ++ B)) : Sep w (E ++ bA) W := by
 subst hb
 rw [← List.append_assoc]
 exact S.perm (List.Perm.append_right Rs hp)
theorem enterQ {w W : World} {all E B Rs Rt bA : List Res} {i : Nat} {r : Res} (S : Sep w (all ++ Rs) W) (hRt : Rt = Rs.eraseIdx i) (hi : Rs[i]? = some r) (hb : bA = B ++ Rt) (hp : (all ++ [r]).Perm (E ++ B)) : Sep w (E ++ bA) W := by
 subst hb
 refine S.perm ((List.Perm.append_left _ (by rw [hRt]; exact perm_pull hi : Rs.Perm (r :: Rt))).trans ?_)
 rw [← List.append_assoc]
 have e : all ++ r :: Rt = (all ++ [r]) ++ Rt := by simp
 rw [e]
 exact List.Perm.append_right Rt hp
end Go.Proofs.YtijlebhoapdfnaaGreat
