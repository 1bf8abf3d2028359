/- A range over a function, with all that is of the walk's own kept apart: what an iterator is good for, and the law of the caller. -/
import Derived.Test.YtobcnffjfclolaaDoorRange
import Derived.Test.YtobcnffjfclolaaDoorRows2
namespace Go.Proofs.YtobcnffjfclolaaDoor
set_option linter.unusedSimpArgs false
open Go.RowKit
set_option linter.unusedVariables false
section
variable {P : Program}
theorem Sep.putObj {w W : World} {Rs : List Res} (S : Sep w Rs W) {b : Nat} {o : Obj} (i : Nat) (hi : Rs[i]? = some (boxR b o)) (o' : Obj) : Sep w (Rs.set i (boxR b o')) (W.putObj b o') :=
  S.turn i hi fun F hF hn _ => ⟨[b], ⟨World.putObj_heap_same (blockLt hF.1), rfl⟩, by simp, fun c hc => .inl (by rw [hF.2]; exact hc), by
    rw [hF.2]
    exact ⟨rfl, rfl, rfl, by simp, fun k hk hn => World.putObj_heap_other (by simpa using hn)⟩⟩
theorem tail_perm (A : Res) (R Fr Gs : List Res) : (A :: (R ++ (Fr ++ Gs))).Perm (R ++ (Fr ++ (A :: Gs))) := by
  rw [← List.append_assoc, ← List.append_assoc]
  exact List.perm_middle.symm
theorem tail_perm1 (A : Res) (R Gs : List Res) : (A :: (R ++ Gs)).Perm (R ++ (A :: Gs)) := List.perm_middle.symm
/-- What an iterator is good for: n rounds at most; round k is handed 'encs k'. What the body has stands ahead of what the iterator reads (Fr); both leave all else (Gs) alone. -/
def IterSep (P : Program) (w : World) (gf : Nat) (lb : Array Value) (encs : Nat → Array Value) (n : Nat) (Fr : List Res) : Prop :=
  ∀ (l : Nat) (In Ex : Nat → List Res → Prop) (W1 : World) (R : List Res),
    (∀ k R W Gs, k < n → In k R → Sep w (R ++ (Fr ++ Gs)) W → YieldAt Fence.wide 7 P l (encs k) W fun e W' =>
      (e = .returned (.bool true) ∧ ∃ R', In (k + 1) R' ∧ Sep w (R' ++ (Fr ++ Gs)) W') ∨ (e = .returned (.bool false) ∧ ∃ R', Ex (k + 1) R' ∧ Sep w (R' ++ Gs) W')) →
    In 0 R → Sep w (R ++ Fr) W1 →
    Calls P gf (#[.func (.yield l) #[] #[]] ++ lb) W1 fun e W' => (∃ v, e = .returned v) ∧ ((∃ R', In n R' ∧ Sep w (R' ++ Fr) W') ∨ ∃ k R', k ≤ n ∧ Ex k R' ∧ Sep w R' W')
def roundSep (w : World) (In : Nat → List Res → Prop) (Ex : Code → Nat → List Res → Prop) (Fr Gs : List Res) (k : Nat) : Exit → Act → World → Prop
  | .normal, _, W' => ∃ R', In k R' ∧ Sep w (R' ++ (Fr ++ Gs)) W'
  | .ret, _, W' => ∃ R', Ex .ret k R' ∧ Sep w (R' ++ Gs) W'
  | .exit id, _, W' => ∃ R', Ex (.exit id) k R' ∧ Sep w (R' ++ Gs) W'
  | .goto t, _, W' => ∃ R', Ex (.goto t) k R' ∧ Sep w (R' ++ Gs) W'
  | .panic _, _, _ => False
  | .outgrown, _, _ => False
theorem range_sep {g : Operand} {ps : Array Tmp} {assign body : Code} {Q : Exit → Act → World → Prop} {a : Act} {w W : World} {gf : Nat} {lb : Array Value}
    {B : Nat} (hB : W.heap.size = B) {encs : Nat → Array Value} {n : Nat} {Fr : List Res}
    (hg : a.eval g = .func (.func gf) #[] lb) (eg : ∀ args w, (callFunc gf args).run P w = .ok (.enter gf args) w)
    (hps : ∀ k, (encs k).size = ps.size)
    (In : Nat → List Res → Prop) (Ex : Code → Nat → List Res → Prop)
    (hiter : IterSep P w gf lb encs n Fr) {R0 : List Res} (h0 : In 0 R0) (S0 : Sep w (R0 ++ Fr) W)
    (a₁ : Nat → Nat → Act) (wA : Nat → World → World) (RA : Nat → Nat → List Res)
    (hA : ∀ k W Rs, k < n → Sep w Rs W → Sep w (RA k W.heap.size ++ Rs) (wA k W))
    (hassign : ∀ (l k : Nat) (W : World) (K : Act → World → Prop), k < n → K (a₁ k W.heap.size) (wA k W) →
      assign.wpIn (Fence.wide.inRound l) 7 P (Exit.then K (fun _ _ _ => False)) { tmps := (ps.zip (encs k)).foldl (fun t (p, v) => t.setIfInBounds p v) a.tmps, defers := [] } W)
    (hbody : ∀ (l k s : Nat) (R Gs : List Res) (W : World), k < n → In k R → Sep w (RA k s ++ (R ++ (Fr ++ Gs))) W →
      body.wpIn (Fence.wide.inRound l) 7 P (roundSep w In Ex Fr Gs (k + 1)) (a₁ k s) W)
    (hdone : ∀ (R : List Res) (W : World), In n R → Sep w (boxR B (.deferred (some [])) :: (R ++ Fr)) W → Q .normal { a with defers := { target := .collected B, args := #[] } :: a.defers } W)
    (hstop : ∀ (c : Code) (k : Nat) (R : List Res) (W : World), k ≤ n → Ex c k R → Sep w (boxR B (.deferred (some [])) :: R) W → c.wpIn Fence.wide 9 P Q { a with defers := { target := .collected B, args := #[] } :: a.defers } W) :
    (Code.rangeFunc g ps assign body).wpIn Fence.wide 9 P Q a W := by
  refine wpIn_rangeFunc ?_
  intro fn hfn
  obtain ⟨rec, hrec⟩ : ∃ rec : LoopState → Option Code → Loop, rec = fun st pe => { state := st, pending := pe, fn, tmps := a.tmps, params := ps, assign, body, defers := B } := ⟨_, rfl⟩
  have S1 := (S0.alloc (.deferred (some []))).alloc (.loop (rec .ready none))
  rw [World.size_alloc, hB] at S1
  obtain ⟨W1, hW1⟩ : ∃ W1, (W.alloc (.deferred (some []))).alloc (.loop (rec .ready none)) = W1 := ⟨_, rfl⟩
  rw [hW1] at S1
  refine ⟨B + 1, [{ target := .collected B, args := #[] }], W1, { target := .fn (.func gf) lb, args := #[.func (.yield (B + 1)) #[] #[]] }, W1, gf,
    #[.func (.yield (B + 1)) #[] #[]] ++ lb, W1, ?_, ?_, ?_, ?_, fun _ => (by omega), ?_⟩
  · rw [← hW1, hrec, ← hB]; exact run_enterLoop_outer _ _ _ _ _
  · simp only [resolve, hg]
    simp [go_sem]
  · intro f' hf'; trivial
  · simp [invoke, go_sem, eg]
  · refine callsIn_wide.2 ?_
    refine (hiter (B + 1)
      (fun k R => ∃ R0, In k R0 ∧ R = boxR (B + 1) (.loop (rec .ready none)) :: boxR B (.deferred (some [])) :: R0)
      (fun k R => ∃ c R0, Ex c k R0 ∧ R = boxR (B + 1) (.loop (rec .done (some c))) :: boxR B (.deferred (some [])) :: R0)
      W1 (boxR (B + 1) (.loop (rec .ready none)) :: boxR B (.deferred (some [])) :: R0) ?_ ⟨R0, h0, rfl⟩ S1).mono ?_
    · rintro k _ W2 Gs hk ⟨R2, hR2, rfl⟩ S2
      have hl := S2.box (b := B + 1) 0 rfl
      have hy := run_yield (P := P) (args := encs k) hl (by rw [hrec]; exact hps k)
      rw [hrec] at hy
      refine ⟨fn, _, assign, body, hy, roundIn_of_wpIn hfn (hassign _ k W2 _ hk ?_)⟩
      clear hy
      have S3 := hA k W2 _ hk S2
      have hn3 : (RA k W2.heap.size ++ (boxR (B + 1) (.loop (rec .ready none)) :: boxR B (.deferred (some [])) :: R2 ++ (Fr ++ Gs)))[(RA k W2.heap.size).length]? = some (boxR (B + 1) (.loop (rec .ready none))) := by rw [List.getElem?_append_right (Nat.le_refl _)]; simp
      have hl3 := S3.box _ hn3
      refine ⟨_, run_beginRound hl3 (by rw [hrec]), ?_⟩
      have S4 := S3.putObj _ hn3 (.loop { rec .ready none with state := .busy })
      obtain ⟨W4, hW4⟩ : ∃ W4, (wA k W2).putObj (B + 1) (.loop { rec .ready none with state := .busy }) = W4 := ⟨_, rfl⟩
      rw [hW4] at S4 ⊢
      rw [List.set_append_right _ _ (Nat.le_refl _), Nat.sub_self] at S4
      have S5 : Sep w (RA k W2.heap.size ++ (R2 ++ (Fr ++ (boxR (B + 1) (.loop { rec .ready none with state := .busy }) :: boxR B (.deferred (some [])) :: Gs)))) W4 := by
        refine S4.perm (List.Perm.append_left _ ?_)
        refine ((tail_perm (boxR B (.deferred (some []))) R2 Fr Gs).cons _).trans ?_
        exact tail_perm _ R2 Fr _
      refine wpIn_mono (hbody (B + 1) k _ R2 _ W4 hk hR2 S5) ?_
      have fin : ∀ (jump : Option Code) (W5 : World), W5.heap[B + 1]? = some (.loop { rec .ready none with state := .busy }) →
          (Instr.endRound (B + 1) jump).run P W5 = .ok (.bool jump.isNone) (W5.putObj (B + 1) (.loop (rec (if jump.isNone then .ready else .done) jump))) := fun jump W5 hl5 => by
        have := run_endRound (P := P) jump hl5
        rw [hrec] at this ⊢
        exact this
      have stop : ∀ (c : Code) (W5 : World) (R' : List Res), Ex c (k + 1) R' → Sep w (R' ++ (boxR (B + 1) (.loop { rec .ready none with state := .busy }) :: boxR B (.deferred (some [])) :: Gs)) W5 →
          (Instr.endRound (B + 1) (some c)).run P W5 = .ok (.bool false) (W5.putObj (B + 1) (.loop (rec .done (some c)))) ∧ ∃ R'', (∃ c R0, Ex c (k + 1) R0 ∧ R'' = boxR (B + 1) (.loop (rec .done (some c))) :: boxR B (.deferred (some [])) :: R0) ∧ Sep w (R'' ++ Gs) (W5.putObj (B + 1) (.loop (rec .done (some c)))) := fun c W5 R' hR' S6 => by
        have hn6 : (R' ++ (boxR (B + 1) (.loop { rec .ready none with state := .busy }) :: boxR B (.deferred (some [])) :: Gs))[R'.length]? = some (boxR (B + 1) (.loop { rec .ready none with state := .busy })) := by rw [List.getElem?_append_right (Nat.le_refl _)]; simp
        have S7 := S6.putObj _ hn6 (.loop (rec .done (some c)))
        rw [List.set_append_right _ _ (Nat.le_refl _), Nat.sub_self] at S7
        refine ⟨fin (some c) W5 (S6.box _ hn6), _, ⟨c, R', hR', rfl⟩, S7.perm ?_⟩
        show (R' ++ (boxR (B + 1) (.loop (rec .done (some c))) :: boxR B (.deferred (some [])) :: Gs)).Perm (boxR (B + 1) (.loop (rec .done (some c))) :: boxR B (.deferred (some [])) :: (R' ++ Gs))
        exact List.perm_middle.trans (List.perm_middle.cons _)
      rintro e a3 W5 hp
      cases e with
      | normal =>
        obtain ⟨R', hR', S6⟩ := hp
        have hn6 : (R' ++ (Fr ++ (boxR (B + 1) (.loop { rec .ready none with state := .busy }) :: boxR B (.deferred (some [])) :: Gs)))[R'.length + Fr.length]? = some (boxR (B + 1) (.loop { rec .ready none with state := .busy })) := by
          rw [List.getElem?_append_right (by omega), List.getElem?_append_right (by omega)]; simp
        have S7 := S6.putObj _ hn6 (.loop (rec .ready none))
        refine ⟨_, _, fin none W5 (S6.box _ hn6), .inl ⟨rfl, boxR (B + 1) (.loop (rec .ready none)) :: boxR B (.deferred (some [])) :: R', ⟨R', hR', rfl⟩, ?_⟩⟩
        rw [List.set_append_right _ _ (by omega), List.set_append_right _ _ (by omega)] at S7
        simp only [Nat.add_sub_cancel_left, Nat.sub_self, List.set_cons_zero] at S7
        refine S7.perm ?_
        refine (tail_perm _ R' Fr _).symm.trans ?_
        exact ((tail_perm (boxR B (.deferred (some []))) R' Fr Gs).symm).cons _
      | ret =>
        obtain ⟨R', hR', S6⟩ := hp
        obtain ⟨x1, x2⟩ := stop _ _ _ hR' S6
        exact ⟨_, _, x1, .inr ⟨rfl, x2⟩⟩
      | exit id =>
        obtain ⟨R', hR', S6⟩ := hp
        obtain ⟨x1, x2⟩ := stop _ _ _ hR' S6
        exact ⟨_, _, x1, .inr ⟨rfl, x2⟩⟩
      | goto t =>
        obtain ⟨R', hR', S6⟩ := hp
        obtain ⟨x1, x2⟩ := stop _ _ _ hR' S6
        exact ⟨_, _, x1, .inr ⟨rfl, x2⟩⟩
      | panic _ => exact hp.elim
      | outgrown => exact hp.elim
    · rintro e W' ⟨⟨v, rfl⟩, h⟩
      rcases h with ⟨_, ⟨R', hR', rfl⟩, S2⟩ | ⟨k, _, hkn, ⟨c, R', hR', rfl⟩, S2⟩
      · have hl := S2.box (b := B + 1) 0 rfl
        have he := run_endLoop (P := P) hl (by rw [hrec]; simp)
        rw [show (rec .ready none).pending = none by rw [hrec]] at he
        have S3 := fun r => S2.putObj (b := B + 1) 0 rfl (.loop r)
        exact ⟨none, _, he, hdone R' _ hR' (S3 _).tail⟩
      · have hl := S2.box (b := B + 1) 0 rfl
        have he := run_endLoop (P := P) hl (by rw [hrec]; simp)
        rw [show (rec .done (some c)).pending = some c by rw [hrec]] at he
        have S3 := fun r => S2.putObj (b := B + 1) 0 rfl (.loop r)
        exact ⟨some c, _, he, hstop c k R' _ hkn hR' (S3 _).tail⟩
end
end Go.Proofs.YtobcnffjfclolaaDoor
