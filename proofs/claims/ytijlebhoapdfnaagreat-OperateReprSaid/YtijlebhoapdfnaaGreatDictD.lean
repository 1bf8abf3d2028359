import Derived.Test.YtijlebhoapdfnaaGreatDictC
import Derived.Test.YtijlebhoapdfnaaGreatRange
import Derived.Maps.OwnIn
/- Dicts: All, as an iterator. -/
set_option maxHeartbeats 400000
namespace Go.Proofs.YtijlebhoapdfnaaGreat
set_option linter.unusedSimpArgs false
open Go.RowKit
set_option linter.unusedVariables false
attribute [local go_sem] Oper.semAt_some
def StB (W W' : World) : Prop := Below W.heap.size W W'
/-- No row of a dict is written. -/
def KpR (W W' : World) : Prop := W.heap.size ≤ W'.heap.size ∧ ∀ (b : Nat) (cs : Array Value) (fr : Nat × Nat), W.heap[b]? = some (Obj.cells cs 199 fr) → W'.heap[b]? = some (Obj.cells cs 199 fr)
def keyK (L : List (V × V)) (k : Nat) : V := ((L[k]?).map (·.1)).getD V.zero
def valK (L : List (V × V)) (k : Nat) : V := ((L[k]?).map (·.2)).getD V.zero
def pairEnc (L : List (V × V)) (k : Nat) : Array Value := #[(keyK L k).val, (valK L k).val]
def EndI (J Jx : Nat → World → Prop) (n : Nat) (e : Ending) (W' : World) : Prop := (∃ v, e = .returned v) ∧ (J n W' ∨ ∃ k, k ≤ n ∧ Jx k W')
def RelI (v : Value) (rows : List Row) (J : Nat → World → Prop) (i : Nat) (wr : World) : Prop := J (liveRows (rows.take i)).length wr ∧ slIs wr 199 7 rowCells v rows
theorem slIs.pairs {w : World} {v : Value} {rows : List Row} (h : slIs w 199 7 rowCells v rows) : ∀ g, v.ownBlock = some g → ∃ cs, w.heap[g]? = some (.cells cs 199) := by
 intro g hg
 rcases h.2 with ⟨rfl, h2⟩ | ⟨g', cap, cur, rfl, h0, hb, h1, h2, h3, h4⟩
 ·
  cases hg
 ·
  cases hg; exact ⟨_, hb⟩
theorem slIs.keptR {w w' : World} {v : Value} {rows : List Row} (h : slIs w 199 7 rowCells v rows) (k : KpR w w') : slIs w' 199 7 rowCells v rows :=
 h.of_block fun g hg => by obtain ⟨cs, hc⟩ := h.pairs g hg; rw [hc]; exact k.2 g cs _ hc
theorem liveRows_take_succ {rows : List Row} {i : Nat} {p : Row} (h : rows[i]? = some p) : liveRows (rows.take (i + 1)) = liveRows (rows.take i) ++ (if p.gone then [] else [(p.k, p.x)]) := by
 unfold liveRows
 rw [List.take_add_one, h, List.filterMap_append]
 congr 1
 cases hg : p.gone <;> simp [Row.live, hg]
theorem liveRows_get {rows : List Row} {i : Nat} {p : Row} (h : rows[i]? = some p) (hg : p.gone = false) : (liveRows rows)[(liveRows (rows.take i)).length]? = some (p.k, p.x) := by
 have hl : i < rows.length := (List.getElem?_eq_some_iff.1 h).1
 have e : rows = rows.take i ++ (p :: rows.drop (i + 1)) := by
  have hp : rows[i] = p := (List.getElem?_eq_some_iff.1 h).2
  rw [← hp, ← List.drop_eq_getElem_cons hl, List.take_append_drop]
 have e2 : liveRows rows = liveRows (rows.take i) ++ ((p.k, p.x) :: liveRows (rows.drop (i + 1))) := by
  conv => lhs; rw [e]
  unfold liveRows
  rw [List.filterMap_append, List.filterMap_cons]
  simp [Row.live, hg]
 rw [e2, List.getElem?_append_right (Nat.le_refl _)]; simp
theorem clone_rows_nil (w : World) : Calls Tryz.prog 220 #[.slice none 0 0] w fun e w' => e = .returned (.slice none 0 0) ∧ w = w' := by
 have heq2 : ∀ W, (binOp .eql 192 (.slice none 0 0) (.slice none 0 0)).run Tryz.prog W = .ok (.bool true) W := fun W => Lib.run_eql_slice_nil W _ _ _ _ _ _ _ Tryz.underlying192
 go_enter Tryz.func220, Tryz.ntmps220
 go_wp2
 go_returns
 exact ⟨rfl, rfl⟩
theorem dict_iter (w1 : World) (d c1 : Nat) (L : List (V × V)) (F : List Nat) (h : DictIs w1 d L F) (hbox : w1.cell? ⟨c1, 0, none⟩ = some (.pointer (some ⟨d, 0, none⟩))) :
  IterAt Tryz.prog 219 #[.pointer (some ⟨c1, 0, none⟩)] (pairEnc L) L.length StB KpR w1 := by
 intro l J Jx hJ hJx hY h0
 show Calls _ _ _ _ (EndI J Jx L.length)
 obtain ⟨m, rv, rows, tb, hd, hm, hr, hL, hn, hat, hlen, hF, hnd, h4, h5⟩ := h
 obtain ⟨ra, rcap, rfl⟩ := hr.form
 have q1 := cellAt hd 1 (v := .slice ra rows.length rcap) rfl
 have HCL : Hid (∀ W, Below w1.heap.size w1 W → Calls Tryz.prog 220 #[.slice ra rows.length rcap] W fun e w' => ∃ v, e = .returned v ∧ slIs w' 199 7 rowCells v rows ∧ Below W.heap.size W w') := by
  intro W hW
  rcases hr.shape with ⟨h1, h2⟩ | ⟨g, cap, h1, _⟩
  ·
   subst h2; simp only [List.length_nil] at h1; cases h1
   exact (clone_rows_nil W).mono fun e w' ⟨h1, h2⟩ => ⟨_, h1, World.ownsRow_nil _ _ _ _, h2 ▸ Below.refl _ _⟩
  ·
   cases h1
   exact (clone_rows W g rcap rows (hr.of_block fun g' hg' => hW.block _ (hr.lt g' hg')) (by omega)).mono fun e w' ⟨v, h1, h2, _, h3⟩ => ⟨v, h1, h2, h3⟩
 have HL := Lib.hid hL
 clear hd hm hr hat hn hlen hF hnd h4 hL
 refine (callsIn_wide (n := 8)).1 ?_
 refine callsIn_of_wp Tryz.func219 rfl trivial ?_ rfl
 simp only [Tryz.ntmps219, List.size_toArray, List.length_cons, List.length_nil, Nat.reduceAdd, Nat.reduceSub, Array.replicate_succ, Array.replicate_zero, List.push_toArray, List.append_toArray, List.nil_append, List.cons_append]
 gi_wp2_with fail
 refine ⟨trivial, (callsIn_wide.2 (HCL.out _ (Below.refl _ _))).mono ?_⟩
 rintro e w' ⟨v, rfl, hs, hb⟩
 obtain ⟨va, vcap, rfl⟩ := hs.form
 gi_wp2_with fail
 have hJ0 := hJ 0 w1 w' h0 hb
 gi_loopw [11] (fun i wr => ∃ k : Nat, k ≤ rows.length ∧ i = .int .i64 k ∧ RelI (.slice va rows.length vcap) rows J k wr) (fun i _ => rows.length - (intOf i).toNat)
 case atStart => exact ⟨0, by omega, rfl, hJ0, hs⟩
 case round =>
  obtain ⟨i, hi, rfl, hJr, hsr⟩ := hrel
  clear hs hb q1 hbox hJ0 h0
  by_cases hlt : i < rows.length
  ·
   obtain ⟨p, hp⟩ : ∃ p, rows[i]? = some p := ⟨rows[i], by simp [hlt]⟩
   obtain ⟨g, rfl⟩ : ∃ g, va = some ⟨g, 0, none⟩ := by
    rcases hsr.shape with ⟨h1, h2⟩ | ⟨g, cap, h1, _⟩
    ·
     rw [h2] at hlt; simp at hlt
    ·
     cases h1; exact ⟨g, rfl⟩
   obtain ⟨d0, d1, d2, d3, d4, d5, d6⟩ := rowFacts hsr hp
   have hil : (i : Int) < rows.length := by omega
   have hbig : (rows.length : Int) ≤ 8201 := by omega
   have hsucc := liveRows_take_succ hp
   cases hg : p.gone with
   | true =>
    rw [hg] at d6
    have HS := Lib.hid (show liveRows (rows.take (i + 1)) = liveRows (rows.take i) by rw [hsucc, hg]; simp)
    clear hp hsucc hg hY
    gi_wp2
    all_goals (refine ⟨fun _ h => (by cases h), ?_⟩)
    all_goals gi_wp2
    all_goals (refine ⟨⟨i + 1, by omega, by go_num, ?_, hsr.alloc _⟩, by simp [intOf]; omega⟩)
    all_goals (rw [HS.out]; exact hJ _ _ _ hJr ((Below.refl _ _).alloc (Nat.le_refl _) _))
   | false =>
    rw [hg] at d6
    have HS := Lib.hid (show (liveRows (rows.take (i + 1))).length = (liveRows (rows.take i)).length + 1 by rw [hsucc, hg]; simp)
    have hget := liveRows_get hp hg
    rw [HL.out] at hget
    have hkl : (liveRows (rows.take i)).length < L.length := (List.getElem?_eq_some_iff.1 hget).1
    have henc : pairEnc L (liveRows (rows.take i)).length = #[p.k.val, p.x.val] := by simp [pairEnc, keyK, valK, hget]
    have HY := Lib.hid (fun W hJ => henc ▸ hY (liveRows (rows.take i)).length W hkl hJ)
    have hb1 : Below wr.heap.size wr (wr.alloc (.cells #[.int .i64 p.k.kind, .int .i64 p.k.n, .string p.k.s, .int .i64 p.x.kind, .int .i64 p.x.n, .string p.x.s, .bool false] 199)) := (Below.refl _ _).alloc (Nat.le_refl _) _
    obtain ⟨fn, tmps, assign, body, hy, hR⟩ := HY.out (wr.alloc (.cells #[.int .i64 p.k.kind, .int .i64 p.k.n, .string p.k.s, .int .i64 p.x.kind, .int .i64 p.x.n, .string p.x.s, .bool false] 199)) (hJ _ wr _ hJr hb1)
    have hsr1 := Lib.hid (hsr.alloc (.cells #[.int .i64 p.k.kind, .int .i64 p.k.n, .string p.k.s, .int .i64 p.x.kind, .int .i64 p.x.n, .string p.x.s, .bool false] 199))
    clear hp hsucc hg hY henc hget
    simp only [V.val] at hy
    gi_wp2_with fail
    refine hR.mono ?_
    rintro e W' (⟨rfl, hJ2, hk2⟩ | ⟨rfl, hJx2⟩)
    ·
     have hs2 := Lib.hid (hsr1.out.keptR hk2)
     clear hsr hy hR d0 d1 d2 d3 d4 d5 d6 hb1
     gi_wp2_with fail
     refine ⟨⟨i + 1, by omega, by go_num, ?_, hs2.out⟩, by simp [intOf]; omega⟩
     rw [HS.out]; exact hJ2
    ·
     clear hsr hy hR d0 d1 d2 d3 d4 d5 d6 hb1
     gi_wp2
     refine bodyPost_ret (results_none rfl _ _ _) rfl ?_
     exact ⟨⟨_, rfl⟩, .inr ⟨_, hkl, hJx2⟩⟩
  ·
   have : i = rows.length := by omega
   subst this
   rw [List.take_length, HL.out] at hJr
   clear hY
   gi_wp2
   refine bodyPost_ret (results_none rfl _ _ _) rfl ?_
   exact ⟨⟨_, rfl⟩, .inl hJr⟩
end Go.Proofs.YtijlebhoapdfnaaGreat
/- Dicts: Keys. -/
namespace Go.Proofs.YtijlebhoapdfnaaGreat
set_option linter.unusedSimpArgs false
open Go.RowKit
set_option linter.unusedVariables false
attribute [local go_sem] Oper.semAt_some
theorem valBlk {w : World} {b : Nat} {x y : Int} {s : ByteArray} (h : w.heap[b]? = some (.cells #[.int .i64 x, .int .i64 y, .string s] 24)) :
  w.cell? ⟨b, 0, none⟩ = some (.int .i64 x) ∧ w.cell? ⟨b, 1, none⟩ = some (.int .i64 y) ∧ w.cell? ⟨b, 2, none⟩ = some (.string s) ∧ w.frozen? ⟨b, 0, none⟩ = false ∧ w.frozen? ⟨b, 1, none⟩ = false ∧ w.frozen? ⟨b, 2, none⟩ = false :=
 ⟨cellAt h 0 rfl, cellAt h 1 rfl, cellAt h 2 rfl, frozenAt h 0, frozenAt h 1, frozenAt h 2⟩
theorem enters_all : Enters Tryz.prog 219 := enters_of Tryz.func219 (by kernel_rfl) rfl
theorem dict_all (w : World) (p : Addr) : Calls Tryz.prog 189 #[.pointer (some p)] w fun e w' =>
  e = .returned (.func (.func 219) #[] #[.pointer (some ⟨w.heap.size, 0, none⟩)]) ∧ w' = w.alloc (.cells #[.pointer (some p)] 155) := by
 go_enter Tryz.func189, Tryz.ntmps189
 go_wp2
 go_ret
 exact ⟨rfl, rfl⟩
/-- A row's block is one of the elements' type. -/
theorem slIs.typed {α : Type} {w : World} {e : TypeId} {m : Nat} {f : α → List Value} {rv : Value} {l : List α} (h : slIs w e m f rv l) : ∀ g, rv.ownBlock = some g → ∃ cs, w.heap[g]? = some (.cells cs e) := by
 intro g hg
 rcases h.2 with ⟨rfl, h2⟩ | ⟨g', cap, cur, rfl, h0, hb, h1, h2, h3, h4⟩
 ·
  cases hg
 ·
  cases hg; exact ⟨_, hb⟩
/-- One value more: what a round leaves. -/
structure More (w W W' : World) (B : Nat) (v v' : Value) : Prop where
 box : Boxed W' B 56 v'
 other : ∀ b, b < W.heap.size → b ≠ B → some b ≠ v.ownBlock → W'.heap[b]? = W.heap[b]?
 kp : KpR W W'
 below : Below w.heap.size w W'
theorem coll_round {w W w1 : World} {B N : Nat} {v v' : Value} {xs : List V} {x : V} {o1 : Obj} (hbox : Boxed W B 56 v) (hs : slIs W 24 3 V.cells v xs) (hB : w.heap.size ≤ B) (hfr : ∀ b, v.ownBlock = some b → w.heap.size ≤ b ∧ (b < B ∨ N ≤ b)) (hN : N ≤ W.heap.size) (hbel : Below w.heap.size w W) (hown : w1.ownsRow 0 24 3 v' (xs.length + 1) (xs.flatMap V.cells ++ x.cells)) (hgr : (W.alloc o1).grownBy w1 v.ownBlock) (hat : v'.ownBlock = v.ownBlock ∨ v'.ownBlock = some (W.heap.size + 1)) :
  Boxed w1 B 56 v ∧ More w W (w1.setCell ⟨B, 0, none⟩ v') B v v' ∧ slIs (w1.setCell ⟨B, 0, none⟩ v') 24 3 V.cells v' (xs ++ [x]) ∧ (∀ b, v'.ownBlock = some b → w.heap.size ≤ b ∧ (b < B ∨ N ≤ b)) := by
 have hne : some B ≠ v.ownBlock := hbox.not_row (by decide) hs
 have hbx1 : Boxed w1 B 56 v := (hbox.alloc o1).kept hgr hne
 have hBl := hbox.lt
 have hsz := hgr.size
 simp only [World.size_alloc] at hsz
 have hold : ∀ b, b < W.heap.size → some b ≠ v.ownBlock → w1.heap[b]? = W.heap[b]? := fun b hb h2 => by
  rw [hgr.block b (by simp; omega) h2, Below.heap_alloc _ _ _ hb]
 have hne' : v'.ownBlock ≠ some B := by
  rcases hat with h | h
  ·
   rw [h]; exact hne.symm
  ·
   rw [h]; simp; omega
 refine ⟨hbx1, ⟨hbx1.set v', fun b hb h1 h2 => by rw [Below.heap_setCell _ _ _ _ h1]; exact hold b hb h2, ⟨by simp; omega, ?_⟩, ?_⟩, ?_, ?_⟩
 ·
  intro b cs fr hb
  have hbl := blockLt hb
  have h1 : b ≠ B := by intro e; subst e; rw [show W.heap[b]? = _ from hbox] at hb; cases hb
  have h2 : some b ≠ v.ownBlock := by
   intro e
   obtain ⟨cs', hc⟩ := hs.typed b e.symm
   rw [hc] at hb; cases hb
  rw [Below.heap_setCell _ _ _ _ h1, hold b hbl h2]; exact hb
 ·
  have : Below w.heap.size w w1 := by
   refine (hbel.alloc hbel.size _).grown hgr (by simp; have := hbel.size; omega) (fun k hk => (hfr k hk).1)
  exact this.setCell hB _
 ·
  refine ⟨flatMap_length _ _ V.cells_len _, ?_⟩
  have h9 : (w1.setCell ⟨B, 0, none⟩ v').ownsRow 0 24 3 v' (xs ++ [x]).length ((xs ++ [x]).flatMap V.cells) := by
   have e : ((xs ++ [x]).flatMap V.cells) = xs.flatMap V.cells ++ x.cells := by simp
   rw [e, List.length_append, List.length_singleton]
   exact ownsRow_block hown fun g hg => Below.heap_setCell _ _ _ _ (fun e => hne' (by rw [hg, e]))
  exact h9.2
 ·
  intro b hb
  rcases hat with h | h
  ·
   exact hfr b (by rw [← h]; exact hb)
  ·
   rw [h] at hb; cases hb; have := hbel.size; exact ⟨by omega, .inr (by omega)⟩
def KeysPost (L : List (V × V)) (w : World) (e : Ending) (w' : World) : Prop := ∃ sv, e = .returned sv ∧ slIs w' 24 3 V.cells sv (L.map (·.1)) ∧ (∀ b, sv.ownBlock = some b → w.heap.size ≤ b) ∧ Below w.heap.size w w'
def CollI (w : World) (B : Nat) (xs : Nat → List V) (N : Nat) (k : Nat) (W : World) : Prop :=
 ∃ v, Boxed W B 56 v ∧ slIs W 24 3 V.cells v (xs k) ∧ (∀ b, v.ownBlock = some b → w.heap.size ≤ b ∧ (b < B ∨ N ≤ b)) ∧ Below w.heap.size w W ∧ N ≤ W.heap.size
theorem CollI.st {w : World} {B N k : Nat} {xs : Nat → List V} {W W' : World} (h : CollI w B xs N k W) (hst : StB W W') : CollI w B xs N k W' := by
 obtain ⟨v, d1, d2, d3, d4, d5⟩ := h
 exact ⟨v, (hst.block B d1.lt).trans d1, d2.of_block (fun g hg => hst.block g (d2.lt g hg)), d3, d4.trans (hst.mono d4.size), Nat.le_trans d5 hst.size⟩
theorem CollI.put {w : World} {B N k p : Nat} {xs : Nat → List V} {W : World} {r r0 : Loop} (h : CollI w B xs N k W) (hl : W.heap[p]? = some (.loop r0)) (hp : w.heap.size ≤ p) : CollI w B xs N k (W.putObj p (.loop r)) := by
 obtain ⟨v, d1, d2, d3, d4, d5⟩ := h
 have hpB : B ≠ p := by intro e; subst e; rw [show W.heap[B]? = _ from d1] at hl; cases hl
 exact ⟨v, (World.putObj_heap_other hpB).trans d1, ownsRow_putObj d2 _ hl rfl, d3, d4.trans ⟨rfl, rfl, rfl, by simp, fun j hj => World.putObj_heap_other (by omega)⟩, by simpa using d5⟩
theorem KpR.trans {X Y Z : World} (h : KpR X Y) (k : KpR Y Z) : KpR X Z := ⟨Nat.le_trans h.1 k.1, fun b cs fr hb => k.2 b cs fr (h.2 b cs fr hb)⟩
theorem KpR.put {W : World} {p : Nat} {r r0 : Loop} (hl : W.heap[p]? = some (.loop r0)) : KpR W (W.putObj p (.loop r)) :=
 ⟨by simp, fun b cs fr hb => (World.putObj_heap_other (by intro e; subst e; rw [hl] at hb; cases hb)).trans hb⟩
theorem KpR.alloc (W : World) (o : Obj) : KpR W (W.alloc o) := ⟨by simp, fun b cs fr hb => blockAlloc hb⟩
theorem StB.keeps {W W' : World} (h : StB W W') {b : Nat} {o : Obj} (hb : W.heap[b]? = some o) : W'.heap[b]? = some o := (h.block b (blockLt hb)).trans hb
theorem ownsRow_form {w : World} {e : TypeId} {size n : Nat} {v : Value} {xs : List Value} (h : w.ownsRow 0 e size v n xs) : ∃ a cap, v = .slice a n cap := by
 rcases h.2 with ⟨h1, h2⟩ | ⟨g, cap, cur, h1, _⟩
 ·
  exact ⟨none, 0, by rw [h1, h2]⟩
 ·
  exact ⟨_, _, h1⟩
theorem dict_keys (w : World) (d : Nat) (L : List (V × V)) (F : List Nat) (h : DictIs w d L F) :
  Calls Tryz.prog 153 #[.pointer (some ⟨d, 0, none⟩)] w (KeysPost L w) := by
 have hL4 : L.length ≤ 4096 := by obtain ⟨m, rv, rows, tb, hd, hm, hr, hL, hn, hat, hlen, rfl, hnd, h4, h5⟩ := h; exact h4
 refine (callsIn_wide (n := 9)).1 ?_
 refine callsIn_of_wp_marks Tryz.func153 rfl trivial ?_ rfl
 simp only [Tryz.ntmps153, List.size_toArray, List.length_cons, List.length_nil, Nat.reduceAdd, Nat.reduceSub, Array.replicate_succ, Array.replicate_zero, List.push_toArray, List.append_toArray, List.nil_append, List.cons_append]
 gi_wp2_with fail
 refine ⟨trivial, (callsIn_wide.2 (dict_all _ _)).mono ?_⟩
 rintro e w' ⟨rfl, rfl⟩
 gi_wp2_with fail
 obtain ⟨B, hB⟩ : ∃ B, w.heap.size = B := ⟨_, rfl⟩
 obtain ⟨W0, hW0⟩ : ∃ W0, ((w.alloc (Obj.cells #[Value.slice none 0 0] 56)).alloc (Obj.cells #[.pointer (some ⟨d, 0, none⟩)] 155)) = W0 := ⟨_, rfl⟩
 rw [hW0, hB]
 have z0 : W0.heap.size = B + 2 := by rw [← hW0]; simp [hB]
 have b0 : Below w.heap.size w W0 := by
  rw [← hW0]
  exact ((Below.refl _ _).alloc (Nat.le_refl _) _).alloc (by simp) _
 have c0 : Boxed W0 B 56 (.slice none 0 0) := by rw [← hW0, ← hB]; exact (Boxed.new w _ _).alloc _
 have c1 : Boxed W0 (B + 1) 155 (.pointer (some ⟨d, 0, none⟩)) := by
  rw [← hW0, ← hB]; have := Boxed.new (w.alloc (Obj.cells #[Value.slice none 0 0] 56)) 155 (.pointer (some ⟨d, 0, none⟩))
  rwa [World.size_alloc] at this
 have hD := h.below b0
 clear hW0 h
 refine range_lawA (B := B + 2) z0 (hg := rfl) enters_all (fun _ => rfl) (CollI w B (fun k => (L.take k).map (·.1)) (B + 4)) (fun _ _ _ => False) (n := L.length) (St := StB) (Kp := KpR)
  (encs := pairEnc L) ?iter ?st (fun k W W' h1 h2 => h1.st h2) (fun _ _ _ _ h _ => h) ?put (fun _ _ _ _ _ h _ => h) ?kt ?kput ?start
  (fun k W => { tmps := #[.pointer (some ⟨d, 0, none⟩), undef, .slice none 0 0, .pointer (some ⟨B, 0, none⟩), .pointer (some ⟨W.heap.size, 0, none⟩), .pointer (some ⟨d, 0, none⟩), .func (.func 219) #[] #[.pointer (some ⟨B + 1, 0, none⟩)], (keyK L k).val, (valK L k).val, undef, undef, undef, undef, undef], defers := [] })
  (fun k W => W.alloc (.cells #[.int .i64 (keyK L k).kind, .int .i64 (keyK L k).n, .string (keyK L k).s] 24)) (fun k W _ => (Below.refl _ _).alloc (Nat.le_refl _) _) ?ka ?assign ?body ?done (fun _ _ _ _ h _ => h.elim)
 case assign =>
  intro l k W K hk hK
  simp only [V.val] at hK
  simp only [pairEnc, V.val]
  gi_wp2
  exact hK
 case iter =>
  intro r
  have hb : Below W0.heap.size W0 ((W0.alloc (.deferred (some []))).alloc (.loop r)) := ((Below.refl _ _).alloc (Nat.le_refl _) _).alloc (by simp) _
  exact dict_iter _ d (B + 1) L F (hD.below hb) ((c1.alloc _).alloc _).cell
 case st => exact fun W W' h o => ⟨fun hb => h.keeps hb, fun hb => h.keeps hb⟩
 case put => exact fun k W r r0 h hl => h.put hl (by omega)
 case ka => exact fun k W _ => KpR.alloc W _
 case kt => exact fun X Y Z h1 h2 => h1.trans h2
 case kput => exact fun W r r0 hl => KpR.put hl
 case start =>
  intro r
  exact ⟨_, (c0.alloc _).alloc _, World.ownsRow_nil _ _ _ _, by simp [Value.ownBlock], (b0.alloc b0.size _).alloc (by simp; have := b0.size; omega) _, by simp; omega⟩
 case body =>
  rintro l k W0 W hk hl' ⟨v, d1, d2, d3, d4, d5⟩ hz hz0 ⟨r, hW⟩
  have hbx : W.heap[W0.heap.size]? = some (.cells #[.int .i64 (keyK L k).kind, .int .i64 (keyK L k).n, .string (keyK L k).s] 24) := by
   rw [hW, World.putObj_heap_other (by omega)]; exact heapAllocNew _ _
  have hWsz : W.heap.size = W0.heap.size + 1 := by rw [hW]; simp
  have hlk : (List.map (·.1) (List.take k L)).length = k := by rw [List.length_map, List.length_take]; omega
  have hks : List.map (·.1) (List.take (k + 1) L) = List.map (·.1) (List.take k L) ++ [keyK L k] := by
   rw [List.take_add_one, List.map_append]; simp [keyK, hk]
  replace d2 : slIs W 24 3 V.cells v (List.map (·.1) (List.take k L)) := d2
  generalize hxs : List.map (·.1) (List.take k L) = xs at *
  obtain ⟨va, vcap, rfl⟩ := d2.form
  obtain ⟨i0, hi, iz0, iz1, iz2⟩ := info_parts info_val
  have HLK := Lib.hid hlk
  have HKS := Lib.hid hks
  obtain ⟨kx, hkx⟩ : ∃ kx, keyK L k = kx := ⟨_, rfl⟩
  rw [hkx] at HKS hbx
  have q0 := d1.cell
  obtain ⟨p0, p1, p2, p3, p4, p5⟩ := valBlk hbx
  have HB := Lib.hid hbx
  have HZ := Lib.hid hWsz
  have hwB : w.heap.size ≤ B := by omega
  have D3 := Lib.hid d3
  clear hB
  have hlt0 : W0.heap.size < W.heap.size := by omega
  clear hW hks hlk hbx hWsz z0 hl' hxs
  simp only [V.val, hkx]
  clear hkx
  gi_wp2_with (gi_at_builtin; (refine wpListIn_append_own_at _ rfl _ _ 56 rfl 0 24 i0 _ 3 32 Tryz.underlying56 hi iz0 iz1 iz2 rfl (by decide) _ xs.length (xs.flatMap V.cells) rfl (d2.alloc _) ⟨W.heap.size, 0, none⟩ 1 1 kx.cells rfl rfl ?c1 ?c2 ?c3 ?c4 ?c5 ?_))
  case c1 =>
   intro j u hu
   have hadd : (⟨W.heap.size, 0, none⟩ : Addr).add j = ⟨W.heap.size, j, none⟩ := by unfold Addr.add; split <;> simp_all
   rw [hadd, cell_of_row _ _ _ _ _ _ (heapAllocNew W _)]
   simpa [V.cells] using hu
  case c2 => intro u hu; simp [V.cells] at hu; rcases hu with rfl | rfl | rfl <;> rfl
  case c3 => rw [HLK.out]; exact Nat.le_trans (show k + 1 ≤ 4097 by omega) (by decide)
  case c4 => rw [HLK.out]; omega
  case c5 => exact Nat.zero_le _
  intro v' w1 hown' hgrow hnil hat
  obtain ⟨va', vcap', hv'⟩ := ownsRow_form hown'
  subst hv'
  obtain ⟨hb1, M, hs', hfr'⟩ := coll_round (w := w) d1 d2 hwB d3 d5 d4 hown' hgrow (by simpa using hat)
  have e0 := hb1.cell
  have e1 := hb1.frozen
  have HM := Lib.hid M
  clear hown' hgrow hnil hat M hb1 d1 d2
  have hd3 := D3.out
  gi_wp2
  have M := HM.out
  have hnB : ∀ j, j = B + 2 ∨ j = B + 3 → some j ≠ (Value.slice va xs.length vcap).ownBlock := by
   intro j hj e
   have := (hd3 j e.symm).2
   omega
  refine ⟨⟨M.other _ (by omega) (by omega) (hnB _ (.inl rfl)), M.other _ (by omega) (by omega) (hnB _ (.inr rfl))⟩, M.kp, _, M.box, ?_, hfr', M.below, Nat.le_trans d5 M.kp.1⟩
  show slIs _ _ _ _ _ (List.map (·.1) (List.take (k + 1) L))
  rw [HKS.out]; exact hs'
 case done =>
  rintro W ⟨v, d1, d2, d3, d4, d5⟩ hK
  replace d2 : slIs W 24 3 V.cells v (List.map (·.1) (List.take L.length L)) := d2
  rw [List.take_length] at d2
  obtain ⟨va, vcap, rfl⟩ := d2.form
  have q0 := d1.cell
  clear z0 hD c0 c1
  gi_wp2
  refine ⟨by simp, .inl ⟨_, _, rfl, run_takeDeferred hK, ?_⟩⟩
  refine ⟨.slice va L.length vcap, by simp [results, Tryz.results153, go_sem], _, rfl, ?_, fun b hb => (d3 b (by simpa using hb)).1, ?_⟩
  ·
   have := d2.of_block (w' := W.putObj (B + 2) (.deferred none)) (fun g hg => World.putObj_heap_other (by have := (d3 g hg).2; omega))
   simpa using this
  ·
   exact d4.trans ⟨rfl, rfl, rfl, by simp, fun j hj => World.putObj_heap_other (by omega)⟩
end Go.Proofs.YtijlebhoapdfnaaGreat
