/- A range over a function: the law of the caller, over an iterator of whatever make (it may write cells of its own). -/
import Derived.RangeFuncNested
import Derived.RangeFuncBound
import Derived.RangeFuncCalls
import Derived.RangeFuncLeaves
import Derived.WalkKit
import Derived.OwnWalkIn
import Derived.TacticsInMore
import Derived.LoopNIn
import Derived.LoopIn
import Derived.RangeFuncBox
namespace Go.Proofs.YtijlebhoapdfnaaGreat
set_option linter.unusedSimpArgs false
open Go.RowKit
set_option linter.unusedVariables false
variable {P : Program}
/-- What an iterator is good for: n rounds at the most, round k is handed 'encs k'; between rounds it takes steps 'St'; a round that goes on keeps 'Kp'. -/
def IterAt (P : Program) (gf : Nat) (lb : Array Value) (encs : Nat → Array Value) (n : Nat) (St Kp : World → World → Prop) (w1 : World) : Prop :=
 ∀ (l : Nat) (J Jx : Nat → World → Prop),
  (∀ k W W', J k W → St W W' → J k W') →
  (∀ k W W', Jx k W → St W W' → Jx k W') →
  (∀ k W, k < n → J k W → YieldAt Fence.wide 7 P l (encs k) W fun e W' =>
   (e = .returned (.bool true) ∧ J (k + 1) W' ∧ Kp W W') ∨ (e = .returned (.bool false) ∧ Jx (k + 1) W')) →
  J 0 w1 →
  Calls P gf (#[.func (.yield l) #[] #[]] ++ lb) w1 fun e W' => (∃ v, e = .returned v) ∧ (J n W' ∨ ∃ k, k ≤ n ∧ Jx k W')
/-- The two blocks of book-keeping lie as they lay. -/
def Books (B : Nat) (W W' : World) : Prop := W'.heap[B]? = W.heap[B]? ∧ W'.heap[B + 1]? = W.heap[B + 1]?
def roundEnds (B : Nat) (Kp : World → World → Prop) (I : Nat → World → Prop) (Ix : Code → Nat → World → Prop) (k : Nat) (W : World) : Exit → Act → World → Prop
 | .normal, _, W' => Books B W W' ∧ Kp W W' ∧ I k W'
 | .ret, _, W' => Books B W W' ∧ Ix .ret k W'
 | .exit id, _, W' => Books B W W' ∧ Ix (.exit id) k W'
 | .goto t, _, W' => Books B W W' ∧ Ix (.goto t) k W'
 | .panic _, _, _ => False
 | .outgrown, _, _ => False
/-- The same; a round's variables are laid in memory ahead of its body. -/
theorem range_lawA {g : Operand} {ps : Array Tmp} {assign body : Code} {Q : Exit → Act → World → Prop} {a : Act} {w : World} {gf : Nat} {lb : Array Value}
  {B : Nat} (hB : w.heap.size = B) {encs : Nat → Array Value} {n : Nat} {St Kp : World → World → Prop}
  (hg : a.eval g = .func (.func gf) #[] lb) (eg : ∀ args w, (callFunc gf args).run P w = .ok (.enter gf args) w)
  (hps : ∀ k, (encs k).size = ps.size)
  (I : Nat → World → Prop) (Ix : Code → Nat → World → Prop)
  (hiter : ∀ r, IterAt P gf lb encs n St Kp ((w.alloc (.deferred (some []))).alloc (.loop r)))
  (hSt : ∀ W W', St W W' → ∀ o, (W.heap[B]? = some o → W'.heap[B]? = some o) ∧ (W.heap[B + 1]? = some o → W'.heap[B + 1]? = some o))
  (hI : ∀ k W W', I k W → St W W' → I k W') (hIx : ∀ c k W W', Ix c k W → St W W' → Ix c k W')
  (hput : ∀ k W r r0, I k W → W.heap[B + 1]? = some (.loop r0) → I k (W.putObj (B + 1) (.loop r)))
  (hputx : ∀ c k W r r0, Ix c k W → W.heap[B + 1]? = some (.loop r0) → Ix c k (W.putObj (B + 1) (.loop r)))
  (hKt : ∀ X Y Z, Kp X Y → Kp Y Z → Kp X Z) (hKput : ∀ W r r0, W.heap[B + 1]? = some (.loop r0) → Kp W (W.putObj (B + 1) (.loop r)))
  (h0 : ∀ r, I 0 ((w.alloc (.deferred (some []))).alloc (.loop r)))
  (a₁ : Nat → World → Act) (wA : Nat → World → World) (hA : ∀ k W, k < n → St W (wA k W)) (hKA : ∀ k W, k < n → Kp W (wA k W))
  (hassign : ∀ (l k : Nat) (W : World) (K : Act → World → Prop), k < n → K (a₁ k W) (wA k W) →
   assign.wpIn (Fence.wide.inRound l) 7 P (Exit.then K (fun _ _ _ => False)) { tmps := (ps.zip (encs k)).foldl (fun t (p, v) => t.setIfInBounds p v) a.tmps, defers := [] } W)
  (hbody : ∀ (l k : Nat) (W0 W : World), k < n → l = B + 1 → I k W → B + 1 < W.heap.size → B + 1 < W0.heap.size → (∃ r, W = (wA k W0).putObj (B + 1) (.loop r)) →
   body.wpIn (Fence.wide.inRound l) 7 P (roundEnds B Kp I Ix (k + 1) W) (a₁ k W0) W)
  (hdone : ∀ (W : World), I n W → W.heap[B]? = some (.deferred (some [])) → Q .normal { a with defers := { target := .collected B, args := #[] } :: a.defers } W)
  (hstop : ∀ (c : Code) (k : Nat) (W : World), k ≤ n → Ix c k W → W.heap[B]? = some (.deferred (some [])) → c.wpIn Fence.wide 9 P Q { a with defers := { target := .collected B, args := #[] } :: a.defers } W) :
  (Code.rangeFunc g ps assign body).wpIn Fence.wide 9 P Q a w := by
 refine wpIn_rangeFunc ?_
 intro fn hfn
 obtain ⟨rec, hrec⟩ : ∃ rec : LoopState → Option Code → Loop, rec = fun st pe => { state := st, pending := pe, fn, tmps := a.tmps, params := ps, assign, body, defers := B } := ⟨_, rfl⟩
 obtain ⟨W1, hW1⟩ : ∃ W1, (w.alloc (.deferred (some []))).alloc (.loop (rec .ready none)) = W1 := ⟨_, rfl⟩
 have hL1 : W1.heap[B + 1]? = some (.loop (rec .ready none)) := by
  rw [← hW1]; have := World.alloc_heap_new (w.alloc (.deferred (some []))) (.loop (rec .ready none)); rwa [World.size_alloc, hB] at this
 have hK1 : W1.heap[B]? = some (.deferred (some [])) := by
  rw [← hW1]; refine (Below.heap_alloc _ _ _ (by simp; omega)).trans ?_
  have := World.alloc_heap_new w (.deferred (some [])); rwa [hB] at this
 refine ⟨B + 1, [{ target := .collected B, args := #[] }], W1, { target := .fn (.func gf) lb, args := #[.func (.yield (B + 1)) #[] #[]] }, W1, gf,
  #[.func (.yield (B + 1)) #[] #[]] ++ lb, W1, ?_, ?_, ?_, ?_, fun _ => (by omega), ?_⟩
 ·
  rw [← hW1, hrec, ← hB]; exact run_enterLoop_outer _ _ _ _ _
 ·
  simp only [resolve, hg]
  simp [go_sem]
 ·
  intro f' hf'; trivial
 ·
  simp [invoke, go_sem, eg]
 ·
  refine callsIn_wide.2 ?_
  have hit := hiter (rec .ready none)
  rw [hW1] at hit
  refine (hit (B + 1)
   (fun k W => I k W ∧ W.heap[B + 1]? = some (.loop (rec .ready none)) ∧ W.heap[B]? = some (.deferred (some [])))
   (fun k W => ∃ c, Ix c k W ∧ W.heap[B + 1]? = some (.loop (rec .done (some c))) ∧ W.heap[B]? = some (.deferred (some [])))
   (fun k X Y hs ht => ⟨hI k X Y hs.1 ht, (hSt X Y ht _).2 hs.2.1, (hSt X Y ht _).1 hs.2.2⟩)
   (fun k X Y hs ht => by
    obtain ⟨c, hc, hl, hk⟩ := hs
    exact ⟨c, hIx c k X Y hc ht, (hSt X Y ht _).2 hl, (hSt X Y ht _).1 hk⟩)
   ?_ ⟨hW1 ▸ h0 _, hL1, hK1⟩).mono ?_
  ·
   rintro k W hlen ⟨hi, hl, hk⟩
   have hlt : B + 1 < W.heap.size := (Array.getElem?_eq_some_iff.1 hl).1
   have hy := run_yield (P := P) (args := encs k) hl (by rw [hrec]; exact hps k)
   rw [hrec] at hy
   refine ⟨fn, _, assign, body, hy, roundIn_of_wpIn hfn (hassign _ k W _ hlen ?_)⟩
   clear hy
   have hltW := hlt
   have hKA1 := hKA k W hlen
   have hA1 := hA k W hlen
   have hi := hI k W _ hi hA1
   have hl := (hSt W _ hA1 _).2 hl
   have hk := (hSt W _ hA1 _).1 hk
   obtain ⟨WA, hWA⟩ : ∃ WA, wA k W = WA := ⟨_, rfl⟩
   have hex : ∃ r, WA.putObj (B + 1) (.loop { rec .ready none with state := .busy }) = (wA k W).putObj (B + 1) (.loop r) := ⟨_, by rw [hWA]⟩
   rw [hWA] at hKA1 hi hl hk ⊢
   have hlt : B + 1 < WA.heap.size := (Array.getElem?_eq_some_iff.1 hl).1
   refine ⟨_, run_beginRound hl (by rw [hrec]), ?_⟩
   have hl2 : (WA.putObj (B + 1) (.loop { rec .ready none with state := .busy })).heap[B + 1]? = some (.loop { rec .ready none with state := .busy }) := World.putObj_heap_same hlt
   have hk2 : (WA.putObj (B + 1) (.loop { rec .ready none with state := .busy })).heap[B]? = some (.deferred (some [])) := (World.putObj_heap_other (by omega)).trans hk
   have hw2 : Kp W (WA.putObj (B + 1) (.loop { rec .ready none with state := .busy })) := hKt _ _ _ hKA1 (hKput _ _ _ hl)
   refine wpIn_mono (hbody _ k W _ hlen rfl (hput _ _ _ _ hi hl) (by simp; omega) hltW hex) ?_
   have fin : ∀ (jump : Option Code) (W3 : World), Books B (WA.putObj (B + 1) (.loop { rec .ready none with state := .busy })) W3 →
     (Instr.endRound (B + 1) jump).run P W3 = .ok (.bool jump.isNone) (W3.putObj (B + 1) (.loop (rec (if jump.isNone then .ready else .done) jump))) ∧
     W3.heap[B + 1]? = some (.loop { rec .ready none with state := .busy }) ∧
     (W3.putObj (B + 1) (.loop (rec (if jump.isNone then .ready else .done) jump))).heap[B + 1]? = some (.loop (rec (if jump.isNone then .ready else .done) jump)) ∧
     (W3.putObj (B + 1) (.loop (rec (if jump.isNone then .ready else .done) jump))).heap[B]? = some (.deferred (some [])) := fun jump W3 hk3 => by
    have hl3 := hk3.2.trans hl2
    have := run_endRound (P := P) jump hl3
    rw [hrec] at this ⊢
    exact ⟨this, by rw [hrec] at hl3; exact hl3, World.putObj_heap_same (Array.getElem?_eq_some_iff.1 hl3).1, (World.putObj_heap_other (by omega)).trans (hk3.1.trans hk2)⟩
   rintro e a3 W3 hp
   cases e with
   | normal =>
    obtain ⟨hk3, hkp3, hi3⟩ := hp
    obtain ⟨hr, hl3, hl4, hk4⟩ := fin none W3 hk3
    exact ⟨_, _, hr, .inl ⟨rfl, ⟨hput _ _ _ _ hi3 hl3, hl4, hk4⟩, hKt _ _ _ hw2 (hKt _ _ _ hkp3 (hKput _ _ _ hl3))⟩⟩
   | ret =>
    obtain ⟨hk3, hi3⟩ := hp
    obtain ⟨hr, hl3, hl4, hk4⟩ := fin (some .ret) W3 hk3
    exact ⟨_, _, hr, .inr ⟨rfl, _, hputx _ _ _ _ _ hi3 hl3, hl4, hk4⟩⟩
   | exit id =>
    obtain ⟨hk3, hi3⟩ := hp
    obtain ⟨hr, hl3, hl4, hk4⟩ := fin (some (.exit id)) W3 hk3
    exact ⟨_, _, hr, .inr ⟨rfl, _, hputx _ _ _ _ _ hi3 hl3, hl4, hk4⟩⟩
   | goto t =>
    obtain ⟨hk3, hi3⟩ := hp
    obtain ⟨hr, hl3, hl4, hk4⟩ := fin (some (.goto t)) W3 hk3
    exact ⟨_, _, hr, .inr ⟨rfl, _, hputx _ _ _ _ _ hi3 hl3, hl4, hk4⟩⟩
   | panic _ => exact hp.elim
   | outgrown => exact hp.elim
  ·
   rintro e W' ⟨⟨v, rfl⟩, h⟩
   rcases h with ⟨hi, hl, hk⟩ | ⟨k, hkn, c, hx, hl, hk⟩
   ·
    have he := run_endLoop (P := P) hl (by rw [hrec]; simp)
    rw [show (rec .ready none).pending = none by rw [hrec]] at he
    exact ⟨none, _, he, hdone _ (hput _ _ _ _ hi hl) ((World.putObj_heap_other (by omega)).trans hk)⟩
   ·
    have he := run_endLoop (P := P) hl (by rw [hrec]; simp)
    rw [show (rec .done (some c)).pending = some c by rw [hrec]] at he
    exact ⟨some c, _, he, hstop c k _ hkn (hputx _ _ _ _ _ hx hl) ((World.putObj_heap_other (by omega)).trans hk)⟩
end Go.Proofs.YtijlebhoapdfnaaGreat
