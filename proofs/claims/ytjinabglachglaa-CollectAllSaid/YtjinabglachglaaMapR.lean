/- Maps and queues as a law's things. -/
import Derived.Test.YtjinabglachglaaRows2
import Derived.Test.YtjinabglachglaaAll
import Derived.ArgAppend
namespace Go.Proofs.Ytjinabglachglaa
set_option linter.unusedSimpArgs false
open Go.RowKit
set_option linter.unusedVariables false
section
variable {X : Type}
/-- A map of one's own with numbers for keys, known by what it tells. -/
def mapR (ex : X → Value) (b : Nat) (f : Int → Option X) : Res :=
  ⟨fun W F => (∃ l, mapIs W Try.prog 2 ekI ex b l ∧ ∀ n, getL l n = f n) ∧ F = [b], fun {W W' F} h k => ⟨by obtain ⟨l, h1, h2⟩ := h.1; exact ⟨l, h1.of_block (k b (by rw [h.2]; simp)), h2⟩, h.2⟩, fun {W F} h b' hb => by
    rw [h.2] at hb; simp at hb; subst hb; obtain ⟨l, h1, h2⟩ := h.1; exact h1.lt⟩
/-- A walk over such a map: all pairs, and those that are left. -/
def iterR (ex : X → Value) (b r : Nat) (l left : List (Int × X)) : Res :=
  ⟨fun W F => iterIs W Try.prog 2 ekI ex b r l left ∧ F = [r, b], fun {W W' F} h k => ⟨h.1.of_block (k b (by rw [h.2]; simp)) (k r (by rw [h.2]; simp)), h.2⟩, fun {W F} h b' hb => by
    rw [h.2] at hb; simp at hb; rcases hb with rfl | rfl
    · exact h.1.lt
    · exact h.1.is.lt⟩
variable {w W W' : World} {Rs : List Res} {ex : X → Value} {b r : Nat} {f : Int → Option X} {l left : List (Int × X)}
theorem Sep.mapNew (S : Sep w Rs W) (ex : X → Value) : Sep w (mapR ex W.heap.size (fun _ => none) :: Rs) (W.alloc (.map #[] 0)) :=
  S.add (belowAlloc W _) (G := [W.heap.size]) ⟨⟨[], mapIs_made _ _ _ _ _, fun n => rfl⟩, rfl⟩ (by simp) (by simp)
theorem Sep.mapGet (S : Sep w Rs W) (i : Nat) (hi : Rs[i]? = some (mapR ex b f)) {t et : TypeId} (ht : Try.prog.underlying t = some (.map 2 et)) {z : Value} (hz : ∀ W, (zeroValue et).run Try.prog W = .ok z W) (n : Int) (hn : okI n) :
    (Instr.lookup t (.map (some b)) (.int .i64 n) false).run Try.prog W = .ok (match f n with | some x => ex x | none => z) W := by
  obtain ⟨F, ⟨⟨l, h1, h2⟩, -⟩, _⟩ := S.get i hi
  obtain ⟨kl, hkl⟩ := keyOfI hn
  have := h1.look ekI_inj keyI ht (hz _) hkl false
  rw [h2 n] at this
  cases hf : f n with
  | none => rw [hf] at this; exact this
  | some x => rw [hf] at this; exact this
theorem Outside.of_only {b : Nat} {F : List Nat} (h : onlyAt W W' b) (hb : b ∈ F) : Outside F W W' := by
  obtain ⟨h1, h2⟩ := h
  exact ⟨h2.os, h2.tape, h2.output, by omega, fun k hk hn => h2.block k hk (fun e => hn (by have := Option.some.inj e; subst this; exact hb))⟩
theorem Sep.mapSet (S : Sep w Rs W) (i : Nat) (hi : Rs[i]? = some (mapR ex b f)) {t et : TypeId} (ht : Try.prog.underlying t = some (.map 2 et)) (n : Int) (hn : okI n) (x : X) :
    ∃ W', (Instr.mapUpdate t (.map (some b)) (.int .i64 n) (ex x)).run Try.prog W = .ok () W' ∧ Sep w (Rs.set i (mapR ex b (fun m => if m = n then some x else f m))) W' := by
  obtain ⟨F, ⟨⟨l, h1, h2⟩, -⟩, _⟩ := S.get i hi
  obtain ⟨kl, hkl⟩ := keyOfI hn
  obtain ⟨W', hr, r1, r2⟩ := h1.update ekI_inj keyI ht hkl x
  refine ⟨W', hr, S.turn i hi fun F hF hn' hg => ?_⟩
  refine ⟨F, ⟨⟨_, r1, fun m => by rw [getL_putL, h2]⟩, hF.2⟩, hn', fun c hc => .inl hc, Outside.of_only r2 (by rw [hF.2]; simp)⟩
theorem Sep.mapIter (S : Sep w Rs W) (i : Nat) (hi : Rs[i]? = some (mapR ex b f)) {t et : TypeId} (ht : Try.prog.underlying t = some (.map 2 et)) :
    ∃ W' l, (Instr.range t (.map (some b))).run Try.prog W = .ok (.pointer (some ⟨W.heap.size, 0, none⟩)) W' ∧ (l.map (·.1)).Nodup ∧ (∀ n, getL l n = f n) ∧ Sep w (Rs.set i (iterR ex b W.heap.size l l)) W' := by
  obtain ⟨F, ⟨⟨l, h1, h2⟩, -⟩, _⟩ := S.get i hi
  obtain ⟨W', hr, r1, r2, r3⟩ := h1.range ht
  refine ⟨W', l, hr, h1.nodup, h2, S.turn i hi fun F hF hn' hg => ?_⟩
  refine ⟨[W.heap.size, b], ⟨r1, rfl⟩, ?_, fun c hc => ?_, ⟨r2.os, r2.tape, r2.output, by omega, fun k hk hn => r2.block k hk (by simp)⟩⟩
  · have := h1.lt; simp; omega
  · simp at hc
    rcases hc with rfl | rfl
    · exact .inr (Nat.le_refl _)
    · exact .inl (by rw [hF.2]; simp)
/-- The walk's next step. -/
theorem Sep.mapNext (S : Sep w Rs W) (i : Nat) (hi : Rs[i]? = some (iterR ex b r l left)) :
    (left = [] ∧ ∀ ty, (Instr.next (.pointer (some ⟨r, 0, none⟩)) false ty).run Try.prog W = .ok (.tuple #[.bool false]) W) ∨
    ∃ p left' W', left.Perm (p :: left') ∧ (∀ ty, (Instr.next (.pointer (some ⟨r, 0, none⟩)) false ty).run Try.prog W = .ok (.tuple #[.bool true, ekI p.1, ex p.2]) W') ∧ (Instr.entry (.pointer (some ⟨r, 0, none⟩))).run Try.prog W' = .ok (.tuple #[ekI p.1, ex p.2]) W' ∧ Sep w (Rs.set i (iterR ex b r l left')) W' := by
  obtain ⟨F, ⟨h1, -⟩, _⟩ := S.get i hi
  rcases h1.next 0 with ⟨h2, h3⟩ | ⟨p, left', W', h2, h3, h4, h5, h6⟩
  · exact .inl ⟨h2, fun ty => h3⟩
  · exact .inr ⟨p, left', W', h2, fun ty => h3, h6, S.turn i hi fun F hF hn' hg => ⟨F, ⟨h4, hF.2⟩, hn', fun c hc => .inl hc, Outside.of_only h5 (by rw [hF.2]; simp)⟩⟩
theorem Sep.iterEnd (S : Sep w Rs W) (i : Nat) (hi : Rs[i]? = some (iterR ex b r l left)) : Sep w (Rs.set i (mapR ex b (getL l))) W := 
  S.turn i hi fun F hF hn' hg => ⟨[b], ⟨⟨l, hF.1.is, fun n => rfl⟩, rfl⟩, by simp, fun c hc => .inl (by rw [hF.2]; simp at hc; subst hc; simp), Outside.refl _ _⟩
theorem Sep.mapClear (S : Sep w Rs W) (i : Nat) (hi : Rs[i]? = some (mapR ex b f)) {t et : TypeId} (ht : Try.prog.underlying t = some (.map 2 et)) :
    ∃ W', (∀ ty, (Builtin.clear_ #[t] ty #[.map (some b)]).run Try.prog W = .ok (.tuple #[]) W') ∧ Sep w (Rs.set i (mapR ex b (fun _ => none))) W' := by
  obtain ⟨F, ⟨⟨l, h1, h2⟩, -⟩, _⟩ := S.get i hi
  obtain ⟨es, clock, hb, hs, hk, hl⟩ := h1
  refine ⟨ChangeMaps.setBlock W b (.map #[] clock), fun ty => ?_, S.turn i hi fun F hF hn' hg => ?_⟩
  · simp [Builtin.clear_, run_underlying ht, MapKept.run_getObj_map hb, MapKept.run_setObj_map _ hb, Result.andThen, ChangeMaps.setBlock]
  · refine ⟨F, ⟨⟨[], ⟨#[], clock, ChangeMaps.heap_setBlock_same hb _, ?_, by simp, by simp⟩, fun n => rfl⟩, hF.2⟩, hn', fun c hc => .inl hc, Outside.of_only (onlyAt_setBlock hb) (by rw [hF.2]; simp)⟩
    have := MapKept.stamped_empty clock
    exact this
end
section
variable {X : Type} {w W : World} {Rs : List Res} {ex : X → Value} {b r : Nat} {f : Int → Option X} {l left : List (Int × X)} {ops : Array Oper} {rest : List Oper} {o : Oper} {a : Act} {Q : Exit → Act → World → Prop}
theorem wpList_range_sep (hg : o.guard = none) (m : Operand) (t : TypeId) (hop : o.op = Op.range t m) (et : TypeId) (ht : Try.prog.underlying t = some (.map 2 et)) (S : Sep w Rs W) (i : Nat) (hi : Rs[i]? = some (mapR ex b f)) (hm : a.eval m = .map (some b))
    (k : ∀ l W', (l.map (·.1)).Nodup → (∀ n, getL l n = f n) → Sep w (Rs.set i (iterR ex b W.heap.size l l)) W' → wpList Try.prog ops Q rest (a.put o.dst (.pointer (some ⟨W.heap.size, 0, none⟩))) W') :
    wpList Try.prog ops Q (o :: rest) a W := by
  obtain ⟨W', l, hrun, r1, r2, r3⟩ := S.mapIter i hi ht
  refine wpList_plain hg fun K' hK' => ?_
  unfold Oper.wp
  simp [execOp, hop, hm, hrun, Result.andThen]
  exact hK' _ _ (k l W' r1 r2 r3)
theorem wpList_next_sep (hg : o.guard = none) (it : Operand) (hop : o.op = Op.next it false) (hit : a.eval it = .pointer (some ⟨r, 0, none⟩)) (S : Sep w Rs W) (i : Nat) (hi : Rs[i]? = some (iterR ex b r l left))
    (h1 : left = [] → wpList Try.prog ops Q rest (a.put o.dst (.tuple #[.bool false])) W)
    (h2 : ∀ p left' W', left.Perm (p :: left') → Sep w (Rs.set i (iterR ex b r l left')) W' → (Instr.entry (.pointer (some ⟨r, 0, none⟩))).run Try.prog W' = .ok (.tuple #[ekI p.1, ex p.2]) W' →
      wpList Try.prog ops Q rest (a.put o.dst (.tuple #[.bool true, ekI p.1, ex p.2])) W') :
    wpList Try.prog ops Q (o :: rest) a W := by
  refine wpList_plain hg fun K' hK' => ?_
  unfold Oper.wp
  rcases S.mapNext i hi with ⟨h0, hrun⟩ | ⟨p, left', W', hp, hrun, he, hS⟩
  · simp [execOp, hop, hit, hrun, Result.andThen]
    exact hK' _ _ (h1 h0)
  · simp [execOp, hop, hit, hrun, Result.andThen]
    exact hK' _ _ (h2 p left' W' hp hS he)
end
/-- A queue of numbers: a slice of one's own, from some place on. -/
def queueIs (W : World) (v : Value) (xs : List Int) : Prop :=
  (v = .slice none 0 0 ∧ xs = []) ∨ ∃ g off cap cur, v = .slice (some ⟨g, off, none⟩) xs.length cap ∧ W.heap[g]? = some (.cells cur 2 (0, 0)) ∧ xs.length ≤ cap ∧ cap ≤ maxLen ∧ off + cap ≤ cur.size ∧ ∀ (j : Nat) n, xs[j]? = some n → cur[off + j]? = some (Value.int .i64 n)
theorem queueIs.of_block {W W' : World} {v : Value} {xs : List Int} (h : queueIs W v xs) (k : ∀ g, v.ownBlock = some g → W'.heap[g]? = W.heap[g]?) : queueIs W' v xs := by
  rcases h with h | ⟨g, off, cap, cur, rfl, h1, h2⟩
  · exact .inl h
  · exact .inr ⟨g, off, cap, cur, rfl, (k g rfl).trans h1, h2⟩
def queueR (v : Value) (xs : List Int) : Res :=
  ⟨fun W F => queueIs W v xs ∧ F = v.ownBlock.toList, fun {W W' F} h k => ⟨h.1.of_block fun g hg => k g (by rw [h.2, hg]; simp), h.2⟩, fun {W F} h b hb => by
    rw [h.2] at hb
    rcases h.1 with ⟨rfl, -⟩ | ⟨g, off, cap, cur, rfl, h1, h2⟩
    · simp [Value.ownBlock] at hb
    · simp [Value.ownBlock] at hb; subst hb; exact blockLt h1⟩
section
variable {w W W' : World} {Rs : List Res} {v : Value} {xs : List Int}
theorem Sep.queueNil (S : Sep w Rs W) : Sep w (queueR (.slice none 0 0) [] :: Rs) W :=
  S.add (Below.refl _ _) (G := []) ⟨.inl ⟨rfl, rfl⟩, rfl⟩ (by simp) (by simp)
theorem Sep.queueForm (S : Sep w Rs W) (i : Nat) (hi : Rs[i]? = some (queueR v xs)) : ∃ a c, v = .slice a xs.length c := by
  obtain ⟨F, ⟨h, -⟩, _⟩ := S.get i hi
  rcases h with ⟨rfl, rfl⟩ | ⟨g, off, cap, cur, rfl, h1, h2⟩
  · exact ⟨none, 0, rfl⟩
  · exact ⟨_, _, rfl⟩
/-- The first of a queue is taken off. -/
theorem Sep.queueTail {n : Int} (S : Sep w Rs W) (i : Nat) (hi : Rs[i]? = some (queueR v (n :: xs))) : ∃ g off cap, v = .slice (some ⟨g, off, none⟩) (xs.length + 1) cap ∧ xs.length + 1 ≤ cap ∧ W.cell? ⟨g, off, none⟩ = some (.int .i64 n) ∧
    Sep w (Rs.set i (queueR (sliced (some ⟨g, off, none⟩) 1 (xs.length + 1) cap 1) xs)) W := by
  obtain ⟨F, ⟨h, -⟩, _⟩ := S.get i hi
  rcases h with ⟨_, h⟩ | ⟨g, off, cap, cur, rfl, h1, h2, h3, h4, h5⟩
  · cases h
  · simp only [List.length_cons] at h2
    refine ⟨g, off, cap, rfl, h2, ?_, S.turn i hi fun F hF hn' hg => ?_⟩
    · rw [cell_of_row _ _ _ _ _ _ h1]; have := h5 0 n rfl; simpa using this
    · have hsl : sliced (some ⟨g, off, none⟩) 1 (xs.length + 1) cap 1 = .slice (some ⟨g, if cap = 1 then off else off + 1, none⟩) xs.length (cap - 1) := by
        unfold sliced
        split <;> simp [Addr.add]
      rw [hsl]
      refine ⟨[g], ⟨.inr ⟨g, _, cap - 1, cur, rfl, h1, by omega, by omega, ?_, fun j m hj => ?_⟩, rfl⟩, by simp, fun c hc => .inl (by rw [hF.2]; simpa [Value.ownBlock] using hc), Outside.refl _ _⟩
      · split <;> omega
      · have hjl := (List.getElem?_eq_some_iff.1 hj).1
        have := h5 (j + 1) m (by simpa using hj)
        split
        · omega
        · rw [show off + 1 + j = off + (j + 1) by omega]; exact this
theorem Sep.queuePop {n : Int} (S : Sep w Rs W) (i : Nat) (hi : Rs[i]? = some (queueR v (n :: xs))) : ∃ g off cap a2 c2, v = .slice (some ⟨g, off, none⟩) (xs.length + 1) cap ∧ W.cell? ⟨g, off, none⟩ = some (.int .i64 n) ∧
    (∀ W' : World, (Instr.slice 33 (.slice (some ⟨g, off, none⟩) (xs.length + 1) cap) (some (.int .i64 1)) none none).run Try.prog W' = .ok (.slice a2 xs.length c2) W') ∧ Sep w (Rs.set i (queueR (.slice a2 xs.length c2) xs)) W := by
  obtain ⟨g, off, cap, h1, h2, h3, h4⟩ := S.queueTail i hi
  obtain ⟨i0, hi0, iz0, iz1, iz2⟩ := info_parts info_int64
  have hsl : sliced (some ⟨g, off, none⟩) 1 (xs.length + 1) cap 1 = .slice (some ⟨g, if cap = 1 then off else off + 1, none⟩) xs.length (cap - 1) := by
    unfold sliced
    split <;> simp [Addr.add]
  rw [hsl] at h4
  refine ⟨g, off, cap, _, _, h1, h3, fun W' => ?_, h4⟩
  have e1 : (sizeOf 2).run Try.prog W' = .ok 1 W' := by simp [sizeOf, typeInfo, hi0, iz1]
  have he : Try.prog.elem 33 = 2 := by kernel_rfl
  have ht : Try.prog.underlying 33 = some (.slice (Try.prog.elem 33)) := by rw [he]; exact Try.underlying33
  rw [run_slice_l W' _ _ _ _ ht .i64 1 (by decide) (by omega), he, e1]
  rw [← hsl]; rfl
/-- One is added to a queue. -/
theorem wpList_push_queue {ops : Array Oper} {rest : List Oper} {o : Oper} {a : Act} {Q : Exit → Act → World → Prop} (hg : o.guard = none) (s x : Operand)
    (ho : o.op = .call { callee := .builtin .append, args := #[s, x], argTypes := #[33, 33] }) (S : Sep w Rs W) (j : Nat) (hj : Rs[j]? = some (queueR v xs)) (hs : a.eval s = v) (n : Int) (g : Nat) (hx : a.eval x = .slice (some ⟨g, 0, none⟩) 1 1) (hc : W.cell? ⟨g, 0, none⟩ = some (.int .i64 n)) (hlen : xs.length + 1 ≤ 17592186044416)
    (k : ∀ va vc w', Sep w (Rs.set j (queueR (.slice va (xs.length + 1) vc) (xs ++ [n]))) w' → wpList Try.prog ops Q rest (a.put o.dst (.slice va (xs.length + 1) vc)) w') :
    wpList Try.prog ops Q (o :: rest) a W := by
  obtain ⟨i0, hi, iz0, iz1, iz2⟩ := info_parts info_int64
  have hcell : ∀ j u, (intCell n)[j]? = some u → W.cell? ((⟨g, 0, none⟩ : Addr).add j) = some u := by
    intro j u hu
    have hadd : (⟨g, 0, none⟩ : Addr).add j = ⟨g, j, none⟩ := by unfold Addr.add; split <;> simp_all
    rw [hadd]
    match j, hu with
    | 0, hu => simp [intCell] at hu; rw [hc, hu]
    | j + 1, hu => simp [intCell] at hu
  have hone : ∀ u ∈ intCell n, u.oneCell' = true := by intro u hu; simp [intCell] at hu; subst hu; rfl
  obtain ⟨F, ⟨h, -⟩, _⟩ := S.get j hj
  suffices hrun : ∃ va vc w', (Builtin.append_ #[33, 33] o.type #[v, .slice (some ⟨g, 0, none⟩) 1 1]).run Try.prog W = .ok (.slice va (xs.length + 1) vc) w' ∧ Sep w (Rs.set j (queueR (.slice va (xs.length + 1) vc) (xs ++ [n]))) w' by
    obtain ⟨va, vc, w', hr, hS⟩ := hrun
    refine wpList_plain hg fun K hK => ?_
    unfold Oper.wp execOp
    simp only [ho, resolve, invoke, builtin, Sem.run_bind, Sem.run_pure, Result.andThen_ok, List.map_toArray, List.map_cons, List.map_nil, hs, hx, hr]
    exact hK _ _ (k va vc w' hS)
  have fresh : ∀ v' w', w'.ownsRow W.heap.size 2 1 v' (xs.length + 1) ((xs ++ [n]).flatMap intCell) → W.grownBy w' none → ∃ va vc, v' = .slice va (xs.length + 1) vc ∧ Sep w (Rs.set j (queueR v' (xs ++ [n]))) w' := fun v' w' hown hgr => by
    rcases hown.2 with ⟨_, h0⟩ | ⟨g', cap, cur, rfl, hb, hg', h1, h2, h3, h4⟩
    · omega
    · refine ⟨_, _, rfl, S.turn j hj fun F hF hn' hgg => ⟨[g'], ⟨.inr ⟨g', 0, cap, cur, by simp, hg', by simpa using h1, h2, by omega, fun i m hm => ?_⟩, rfl⟩, by simp, fun c hc => .inr (by simp at hc; omega), ⟨hgr.os, hgr.tape, hgr.output, hgr.size, fun k hk hn => hgr.block k hk (by simp)⟩⟩⟩
      have hil := (List.getElem?_eq_some_iff.1 hm).1
      have := congrArg (fun l => l[i]?) h4
      simp only [Nat.mul_one] at this
      rw [List.getElem?_take, if_pos (by simpa using hil), Array.getElem?_toList, ints_flat, List.getElem?_map, hm] at this
      rw [Nat.zero_add]; exact this
  rcases h with ⟨rfl, rfl⟩ | ⟨gq, off, cap, cur, rfl, h1, h2, h3, h4, h5⟩
  · obtain ⟨v', w', hr, r1, r2, r3, r4⟩ := run_append_own_at (P := Try.prog) W W.heap.size 33 o.type 2 i0 _ 1 8 Try.underlying33 hi iz0 iz1 iz2 rfl (by decide) (.slice none 0 0) 0 [] (World.ownsRow_nil _ _ _ _) ⟨g, 0, none⟩ 1 1 (intCell n) rfl hcell hone (by decide) (by decide) (Nat.le_refl _)
    obtain ⟨va, vc, rfl, hS⟩ := fresh v' w' (by simpa using r1) (by simpa [Value.ownBlock] using r2)
    exact ⟨va, vc, w', hr, hS⟩
  · by_cases hroom : xs.length + 1 ≤ cap
    · have hlt := blockLt h1
      refine ⟨_, _, _, run_append_room_cells (P := Try.prog) W 33 o.type 2 i0 Try.underlying33 hi gq off xs.length cap ⟨g, 0, none⟩ 1 1 (intCell n) (by rw [iz1]; rfl) hcell hone hroom ?_ ?_, S.turn j hj fun F hF hn' hgg => ?_⟩
      · intro i hi'
        rw [iz1, Nat.mul_one, cell_of_row _ _ _ _ _ _ h1]
        simp [intCell] at hi'
        subst hi'
        have : off + xs.length < cur.size := by omega
        simp [this]
      · intro i hi'
        simp [World.frozen?, h1]
      · rw [iz1, Nat.mul_one]
        have hset : (W.setCells gq (off + xs.length) (intCell n)).heap[gq]? = some (.cells (cur.setIfInBounds (off + xs.length) (.int .i64 n)) 2 (0, 0)) := heap_setCell_same h1 _ _
        refine ⟨F, ⟨.inr ⟨gq, off, cap, cur.setIfInBounds (off + xs.length) (.int .i64 n), by simp, hset, by simpa using hroom, h3, by simpa using h4, fun i m hm => ?_⟩, by rw [hF.2]; rfl⟩, hn', fun c hc => .inl hc, ⟨rfl, rfl, rfl, by simp [World.setCells, World.setCell, intCell], fun k hk hn0 => ?_⟩⟩
        · have hil := (List.getElem?_eq_some_iff.1 hm).1
          rw [Array.getElem?_setIfInBounds]
          by_cases e : i = xs.length
          · subst e
            rw [if_pos rfl, if_pos (by omega)]
            simp at hm; subst hm; rfl
          · have hil' : i < xs.length := by simp at hil; omega
            rw [if_neg (by omega)]
            rw [List.getElem?_append_left hil'] at hm
            exact h5 i m hm
        · refine Below.heap_setCell _ _ _ _ (fun e => hn0 ?_)
          rw [hF.2]; simp [Value.ownBlock, e]
    · obtain ⟨v', w', hr, r1, r2⟩ := run_append_arg_grows (P := Try.prog) (w := W) 33 o.type 2 i0 _ 1 8 Try.underlying33 hi iz0 iz1 iz2 rfl (by decide) ⟨gq, off, none⟩ xs.length cap (xs.flatMap intCell) (by rw [flatMap_length intCell 1 (fun _ => rfl)]) (fun i u hu => by
        have hadd : (⟨gq, off, none⟩ : Addr).add i = ⟨gq, off + i, none⟩ := by unfold Addr.add; split <;> simp_all
        rw [ints_flat, List.getElem?_map] at hu
        obtain ⟨m, hm, rfl⟩ := Option.map_eq_some_iff.1 hu
        rw [hadd, cell_of_row _ _ _ _ _ _ h1]; exact h5 i m hm) ⟨g, 0, none⟩ 1 1 (intCell n) rfl hcell (by omega) (by unfold maxLen; omega) (by omega)
      obtain ⟨va, vc, rfl, hS⟩ := fresh v' w' (by rw [List.flatMap_append]; exact r1) r2
      exact ⟨va, vc, w', hr, hS⟩
end
end Go.Proofs.Ytjinabglachglaa
