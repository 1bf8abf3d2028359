/- ch 16: a teller in memory, and the builder that lies within it. -/
import Derived.Test.YtijlebhoapdfnaaGreatRows3
import Derived.Lib.Builder
import Derived.Lib.AppendStr
import Derived.Lib.UnsafeStr
import Derived.Test.YtijlebhoapdfnaaGreatSep
/- ch 16: operators, plainly. -/
namespace Go.Proofs.YtijlebhoapdfnaaGreat
set_option linter.unusedSimpArgs false
open Go.RowKit
set_option linter.unusedVariables false
/-- What is raised, as it lies. -/
abbrev excZ : Value := .agg #[.string ⟨#[]⟩, .int .i64 0, .int .i64 0, .string ⟨#[]⟩, .bool false]
abbrev excN (s : ByteArray) : Value := .agg #[.string s, .int .i64 0, .int .i64 0, .string ⟨#[]⟩, .bool false]
abbrev zeroV : Value := .agg #[.int .i64 0, .int .i64 0, .string ⟨#[]⟩]
abbrev typeError : ByteArray := ⟨#[84, 121, 112, 101, 69, 114, 114, 111, 114]⟩
abbrev memoryError : ByteArray := ⟨#[77, 101, 109, 111, 114, 121, 69, 114, 114, 111, 114]⟩
abbrev recursionError : ByteArray := ⟨#[82, 101, 99, 117, 114, 115, 105, 111, 110, 69, 114, 114, 111, 114]⟩
def HeapM.rowB (H : HeapM) (v : V) : Bool := decide (H.kind v = 1) || decide (H.kind v = 2)
def HeapM.wholeB (H : HeapM) (v : V) : Bool := H.rowB v || decide (H.kind v = 3)
def HeapM.sizeB (H : HeapM) (v : V) : Nat := if H.kind v = 3 then (H.pairs v).length else (H.items v).length
def HeapM.oneB (H : HeapM) (a b : V) : Bool := if H.kind a = 0 ∧ H.kind b = 0 then decide (a = b) else decide (H.kind a ≠ 0) && (decide (H.kind b ≠ 0) && decide (a.n = b.n))
/-- All of a row; none: too deep. -/
def allM {α : Type} (p : α → Option Bool) : List α → Option Bool
 | [] => some true
 | x :: l => match p x with | some true => allM p l | r => r
def HeapM.sameT (H : HeapM) (a b : V) (r : Option Bool) : Option Bool :=
 if H.oneB a b = true then some true
 else if H.wholeB a = false ∨ H.kind a ≠ H.kind b then some ((decide (H.kind a = 0) || decide (H.kind b = 0)) && decide (a = b))
 else if H.sizeB a ≠ H.sizeB b then some false
 else r
/-- Same, of two that may be so deep yet. -/
def HeapM.sameF (H : HeapM) : Nat → V → V → Option Bool
 | 0, a, b => H.sameT a b none
 | f + 1, a, b => H.sameT a b (if H.kind a = 3 then allM (fun k : V => match H.get b k with | none => some false | some y => H.sameF f ((H.get a k).getD V.zero) y) ((H.pairs a).map (·.1))
   else allM (fun p : V × V => H.sameF f p.1 p.2) ((H.items a).zip (H.items b)))
/-- What Same answers, as it lies. -/
def sameV (r : Option Bool) : Value := .tuple #[.bool (r.getD false), match r with | some _ => excZ | none => excN recursionError]
/-- What is told: the text, and what is raised. -/
inductive Fell | no | memory | deep
 deriving DecidableEq
def Fell.name : Fell → ByteArray | .no => ⟨#[]⟩ | .memory => memoryError | .deep => recursionError
structure TelM where
 out : List UInt8
 fell : Fell
def TelM.say (t : TelM) (s : List UInt8) : TelM :=
 match t.fell with
 | .no => if t.out.length + s.length > 65536 then ⟨t.out, .memory⟩ else ⟨t.out ++ s, .no⟩
 | _ => t
theorem TelM.say_fell {t : TelM} (h : t.fell ≠ .no) (s : List UInt8) : t.say s = t := by
 unfold TelM.say
 cases e : t.fell with
 | no => exact absurd e h
 | _ => rfl
def digitsU (m : Nat) : List UInt8 := if m < 10 then [(48 + m).toUInt8] else digitsU (m / 10) ++ [(48 + m % 10).toUInt8]
def textN (n : Int) : List UInt8 := (if n < 0 then [45] else []) ++ digitsU n.natAbs
def hexD (n : Nat) : UInt8 := if n < 10 then (48 + n).toUInt8 else (87 + n).toUInt8
def quoteC (c : UInt8) : List UInt8 :=
 if c = 10 then [92, 110] else if c = 9 then [92, 116] else if c = 92 ∨ c = 39 then [92, c] else if c < 32 ∨ 126 < c then [92, 120, hexD (c.toNat / 16), hexD (c.toNat % 16)] else [c]
def quoteL (l : List UInt8) : List UInt8 := 39 :: (l.flatMap quoteC ++ [39])
def wordK (k : Int) : List UInt8 :=
 if k = 0 then [100, 101, 97, 100] else if k = 4 then [102, 117, 110, 99, 116, 105, 111, 110, 32] else if k = 5 then [99, 108, 97, 115, 115, 32] else if k = 7 then [109, 101, 116, 104, 111, 100, 32] else if k = 8 then [103, 101, 110, 101, 114, 97, 116, 111, 114, 32]
 else if k = 12 then [109, 111, 100, 117, 108, 101, 32] else if k = 9 then [105, 116, 101, 114, 97, 116, 111, 114] else if k = 10 then [99, 101, 108, 108] else if k = 11 then [119, 101, 97, 107] else []
/-- Whether a name stands behind the word. -/
def namedK (k : Int) : Bool := decide (k = 4 ∨ k = 5 ∨ k = 6 ∨ k = 7 ∨ k = 8 ∨ k = 12)
def HeapM.plainL (H : HeapM) (v : V) : List UInt8 :=
 if v.kind = 0 then [78, 111, 110, 101]
 else if v.kind = 1 then (if v.n ≠ 0 then [84, 114, 117, 101] else [70, 97, 108, 115, 101])
 else if v.kind = 2 then textN v.n
 else if v.kind = 3 then quoteL v.s.data.toList
 else if v.kind = 5 then [60, 98, 117, 105, 108, 116, 105, 110, 32] ++ v.s.data.toList ++ [62]
 else 60 :: (wordK (H.kind v) ++ (if namedK (H.kind v) = true then (H.name v).data.toList else []) ++ [62])
/-- Parts, one behind the other. -/
def partsF : Bool → List (TelM → TelM) → TelM → TelM
 | _, [], t => t
 | first, p :: l, t => partsF false l (p (if first = true then t else t.say [44, 32]))
def rowF (o c : List UInt8) (l : List (TelM → TelM)) (t : TelM) : TelM := (partsF true l (t.say o)).say c
def HeapM.tellT (H : HeapM) (v : V) (t r : TelM) : TelM :=
 match t.fell with
 | .no => if H.wholeB v = false then t.say (H.plainL v) else r
 | _ => t
def HeapM.tellF (H : HeapM) : Nat → V → TelM → TelM
 | 0, v, t => H.tellT v t ⟨t.out, .deep⟩
 | f + 1, v, t => H.tellT v t
   (if H.kind v = 1 then rowF [91] [93] ((H.items v).map fun x => H.tellF f x) t
   else if H.kind v = 2 then rowF [40] (if (H.items v).length = 1 then [44, 41] else [41]) ((H.items v).map fun x => H.tellF f x) t
   else rowF [123] [125] ((H.pairs v).map fun p => fun t => H.tellF f ((H.get v p.1).getD V.zero) ((H.tellF f p.1 t).say [58, 32])) t)
/-- What Repr answers, as it lies. -/
def reprV (t : TelM) : Value := match t.fell with | .no => .tuple #[.string ⟨t.out.toArray⟩, excZ] | f => .tuple #[.string ⟨#[]⟩, excN f.name]
def HeapM.reprM (H : HeapM) (v : V) : TelM := H.tellF 30 v ⟨[], .no⟩
theorem HeapM.tellT_fell {H : HeapM} {v : V} {t r : TelM} (h : t.fell ≠ .no) : H.tellT v t r = t := by
 unfold HeapM.tellT
 cases e : t.fell with
 | no => exact absurd e h
 | _ => rfl
theorem HeapM.tellF_fell {H : HeapM} {f : Nat} {v : V} {t : TelM} (h : t.fell ≠ .no) : H.tellF f v t = t := by
 cases f <;> exact HeapM.tellT_fell h
theorem partsF_fell : ∀ (l : List (TelM → TelM)) (first : Bool) {t : TelM}, t.fell ≠ .no → (∀ p ∈ l, ∀ t : TelM, t.fell ≠ .no → p t = t) → partsF first l t = t
 | [], _, t, _, _ => rfl
 | p :: l, first, t, h, hp => by
  unfold partsF
  have e : (if first = true then t else t.say [44, 32]) = t := by split; rfl; exact TelM.say_fell h _
  rw [e, hp p (by simp) t h]
  exact partsF_fell l false h fun q hq => hp q (by simp [hq])
end Go.Proofs.YtijlebhoapdfnaaGreat
set_option maxRecDepth 100000
set_option maxHeartbeats 2000000
namespace Go.Proofs.YtijlebhoapdfnaaGreat
set_option linter.unusedSimpArgs false
open Go.RowKit
set_option linter.unusedVariables false
/-- A teller: its heap, what its builder has, what is raised. -/
def TellIs (W : World) (t h : Nat) (T : TelM) (F : List Nat) : Prop :=
 ∃ p v : Value, (p = .pointer none ∨ p = .pointer (some ⟨t, 1, none⟩)) ∧ W.heap[t]? = some (.cells #[.pointer (some ⟨h, 0, none⟩), p, v, .string T.fell.name] 144) ∧
  W.ownsRow 0 5 1 v T.out.length (Lib.byteCells T.out) ∧ F = t :: v.ownBlock.toList
def tellR (t h : Nat) (T : TelM) : Res := ⟨fun W F => TellIs W t h T F, fun {W W' F} hh k => by
  obtain ⟨p, v, h1, h2, h3, h4⟩ := hh
  exact ⟨p, v, h1, (k t (by simp [h4])).trans h2, ownsRow_block h3 (fun g hg => k g (by simp [h4, hg])), h4⟩, fun {W F} hh b hb => by
  obtain ⟨p, v, h1, h2, h3, h4⟩ := hh
  rw [h4] at hb
  simp only [List.mem_cons, Option.mem_toList] at hb
  rcases hb with rfl | hb
  ·
   exact blockLt h2
  ·
   exact (World.ownsRow.lt h3 b hb).2⟩
theorem infoTB : (Tryz.prog.info? 142).map (·.size) = some 2 := by kernel_rfl
theorem liesTB : liesAt Tryz.prog Tryz.prog.depth 144 (4 / Tryz.prog.cellsOf 144) 1 142 1 = true := by kernel_rfl
section
variable {W : World}
theorem tb_used (b : Nat) (h0 : W.cell? ⟨b, 1, none⟩ = some (.pointer (some ⟨b, 1, none⟩))) :
  Calls Tryz.prog 224 #[.pointer (some ⟨b, 1, none⟩)] W fun e w' => e = .returned (.tuple #[]) ∧ w' = W := by
 obtain ⟨j, hj, _⟩ := Option.map_eq_some_iff.1 infoTB
 go_enter Tryz.func224, Tryz.ntmps224
 go_wp2
 rw [Lib.run_neq_ptr_same W _ Tryz.underlying139 hj]
 go_wp2
 go_end0
 exact ⟨rfl, rfl⟩
theorem tb_fresh (b : Nat) (h0 : W.cell? ⟨b, 1, none⟩ = some (.pointer none)) (hsh : W.shape? b = some (144, 4)) (hfz : W.frozen? ⟨b, 1, none⟩ = false) :
  Calls Tryz.prog 224 #[.pointer (some ⟨b, 1, none⟩)] W fun e w' => e = .returned (.tuple #[]) ∧ w' = W.setCell ⟨b, 1, none⟩ (.pointer (some ⟨b, 1, none⟩)) := by
 obtain ⟨j, hj, hjs⟩ := Option.map_eq_some_iff.1 infoTB
 go_enter Tryz.func224, Tryz.ntmps224
 go_wp2
 rw [Lib.run_to_unsafe W ⟨b, 1, none⟩ Tryz.underlying139 Tryz.underlying261 hj (by rw [hjs]; decide) hsh (show 1 < 4 by decide)]
 simp only [Result.andThen]
 rw [Oper.upon_value]
 go_wp2
 rw [run_callFunc_extern Tryz.func242 (by kernel_rfl) (by kernel_rfl) (by kernel_rfl) (e := Extern.AbiNoEscape.same) (by kernel_rfl)]
 rw [Lib.run_noEscape]
 simp only [Result.andThen]
 rw [Oper.upon_value]
 go_wp2
 rw [Lib.run_from_unsafe W ⟨b, 1, none⟩ Tryz.underlying261 Tryz.underlying139 hj hsh liesTB]
 simp only [Result.andThen]
 rw [Oper.upon_value]
 go_wp2
 go_end0
 exact ⟨rfl, rfl⟩
/-- The teller's block, its builder's cells told. -/
abbrev telB (h : Nat) (p v : Value) (s : ByteArray) : Obj := .cells #[.pointer (some ⟨h, 0, none⟩), p, v, .string s] 144
theorem infoU8 : (Tryz.prog.info? 5).map (fun i => (i.zero, i.size, i.bytes)) = some (some (.int .u8 0), 1, 1) := by kernel_rfl
theorem ownsRow_ne {w : World} {B : Nat} {e T : TypeId} {v : Value} {n : Nat} {xs : List Value} {b : Nat} {cs : Array Value} (hown : w.ownsRow B e 1 v n xs) (hb : w.heap[b]? = some (.cells cs T)) (hTe : T ≠ e) : v.ownBlock ≠ some b := Lib.ownBlock_ne hown hb hTe
theorem tb_check (b h : Nat) (p v : Value) (s : ByteArray) (hp : p = .pointer none ∨ p = .pointer (some ⟨b, 1, none⟩)) (hb : W.heap[b]? = some (telB h p v s)) :
  Calls Tryz.prog 224 #[.pointer (some ⟨b, 1, none⟩)] W fun e w' => e = .returned (.tuple #[]) ∧ w'.heap[b]? = some (telB h (.pointer (some ⟨b, 1, none⟩)) v s) ∧ Outside [b] W w' ∧ w'.heap.size = W.heap.size := by
 rcases hp with rfl | rfl
 ·
  refine (tb_fresh b (cellAt hb 1 rfl) (by simp [World.shape?, hb]) (frozenAt hb 1)).mono ?_
  rintro e w' ⟨rfl, rfl⟩
  exact ⟨rfl, by rw [heap_setCell_same hb]; rfl, (Outside.refl _ _).setCell (.inl (by simp)) _, size_setCell _ _ _⟩
 ·
  refine (tb_used b (cellAt hb 1 rfl)).mono ?_
  rintro e w' ⟨rfl, rfl⟩
  exact ⟨rfl, hb, Outside.refl _ _, rfl⟩
/-- Appending a string's bytes: where the row lies then. -/
theorem append_str_at {v : Value} {n : Nat} {xs : List Value} (hown : W.ownsRow 0 5 1 v n xs) (s : ByteArray) (hl : n + s.size ≤ 140737488355328) (ty : TypeId) :
  ∃ v' w', (Builtin.append_ #[140, 9] ty #[v, .string s]).run Tryz.prog W = .ok v' w' ∧ w'.ownsRow 0 5 1 v' (n + s.size) (xs ++ Lib.strCells s) ∧ W.grownBy w' v.ownBlock ∧ (v'.ownBlock = v.ownBlock ∨ v'.ownBlock = some W.heap.size) := by
 obtain ⟨i0, hi, hz0, hz1, hz2⟩ := info_parts infoU8
 have ht := Tryz.underlying140
 have hu := Tryz.underlying9
 have h63 : n + s.size ≤ maxLen := by unfold maxLen; omega
 obtain ⟨v', w', hr, h1, h2, h3⟩ := Lib.run_append_own_string (P := Tryz.prog) W 0 140 9 ty 5 i0 ht hu hi hz0 hz1 hz2 v n xs hown s h63 hl (Nat.zero_le _)
 refine ⟨v', w', hr, h1, h2, ?_⟩
 have hxl : xs.length = n := by simpa using hown.1
 rcases hown.2 with ⟨rfl, rfl⟩ | ⟨g, cap, cur, rfl, hbg, hg, hnc, hcm, hcs, htake⟩
 ·
  by_cases hm : s.size = 0
  ·
   left; rw [h3.2 ⟨rfl, hm⟩]
  ·
   right
   have := hr.symm.trans (run_append_nil_string (P := Tryz.prog) W _ _ ty _ i0 _ ht hu hi hz0 s (by omega) (by omega) (by rw [hz2]; omega))
   cases this; rfl
 ·
  by_cases hroom : n + s.size ≤ cap
  ·
   left
   have := hr.symm.trans (Lib.run_append_room_string (P := Tryz.prog) W _ _ ty _ i0 ht hu hi hz1 g n cap cur hg s hroom (by omega))
   cases this; rfl
  ·
   right
   have := hr.symm.trans (Lib.run_append_grow_string (P := Tryz.prog) W _ _ ty _ i0 _ ht hu hi hz0 ⟨g, 0, none⟩ n cap xs (by rw [hz1]; simpa using hxl) (hown.cells (g := g) rfl) s (by omega) (by omega) (by rw [hz2]; exact growslice_fits (by omega) (by omega)))
   cases this; rfl
theorem tb_write (b h n : Nat) (p v : Value) (nm s : ByteArray) (xs : List Value) (hp : p = .pointer none ∨ p = .pointer (some ⟨b, 1, none⟩)) (hb : W.heap[b]? = some (telB h p v nm)) (hown : W.ownsRow 0 5 1 v n xs) (hl : n + s.size ≤ 140737488355328) :
  Calls Tryz.prog 196 #[.pointer (some ⟨b, 1, none⟩), .string s] W fun e w' => e = .returned (.tuple #[.int .i64 s.size, .nilIface]) ∧ ∃ v', w'.heap[b]? = some (telB h (.pointer (some ⟨b, 1, none⟩)) v' nm) ∧
   w'.ownsRow 0 5 1 v' (n + s.size) (xs ++ Lib.strCells s) ∧ Outside (b :: v.ownBlock.toList) W w' ∧ (∀ g, v'.ownBlock = some g → v.ownBlock = some g ∨ W.heap.size ≤ g) ∧ v'.ownBlock ≠ some b := by
 have hne := ownsRow_ne hown hb (by decide)
 have hlt := blockLt hb
 have KC := Lib.hid (tb_check b h p v nm hp hb)
 have HB := Lib.hid (And.intro hb (And.intro hown hp))
 clear hb hown hp
 go_enter Tryz.func196, Tryz.ntmps196
 go_wp2_with fail
 refine KC.out.mono ?_
 rintro e w1 ⟨rfl, hb, ho, hsz⟩
 have hown : w1.ownsRow 0 5 1 v n xs := ownsRow_block HB.out.2.1 fun g hg => ho.block g (World.ownsRow.lt HB.out.2.1 g hg).2 (by simp; rintro rfl; exact hne hg)
 have c1 := cellAt hb 2 (v := v) rfl
 clear KC
 obtain ⟨v', w2, hr, hown', hgrow, hat⟩ := append_str_at hown s hl 140
 have hb2 : w2.heap[b]? = some (telB h (.pointer (some ⟨b, 1, none⟩)) v nm) := (hgrow.block b (blockLt hb) (fun e => hne e.symm)).trans hb
 have f1 := frozenAt hb2 2
 have c2 := cellAt hb2 2 (v := v) rfl
 have hne' := ownsRow_ne hown' hb2 (by decide)
 obtain ⟨ao, n', cap, rfl⟩ : ∃ ao n' cap, v' = .slice ao n' cap := by
  rcases hown'.2 with ⟨hv, _⟩ | ⟨g, cap, cur, hv, _⟩
  ·
   exact ⟨_, _, _, hv⟩
  ·
   exact ⟨_, _, _, hv⟩
 have HN := Lib.hid (And.intro hr (And.intro hown' (And.intro hgrow (And.intro hat (And.intro hb2 hne')))))
 clear hr hown' hgrow hat hb2 hown hne'
 go_wp2_with (at_builtin; refine Lib.wpList_append_run _ rfl _ _ _ _ rfl _ _ rfl rfl _ _ HN.out.1 ?_)
 go_wp2
 go_ret2
 obtain ⟨hr, hown', hgrow, hat, hb2, hne'⟩ := HN.out
 have hsz2 : w1.heap.size ≤ w2.heap.size := hgrow.size
 refine ⟨rfl, .slice ao n' cap, by rw [heap_setCell_same hb2]; rfl, ?_, ?_, ?_, hne'⟩
 ·
  exact ownsRow_block hown' fun g hg => Below.heap_setCell _ _ _ _ (show g ≠ b from fun e => hne' (e ▸ hg))
 ·
  exact Outside.setCell (Outside.grown (ho.mono (by simp)) hgrow (fun g hg => .inl (by simp [hg]))) (.inl (by simp)) _
 ·
  intro g hg
  rcases hat with h | h
  ·
   left; rw [← h]; exact hg
  ·
   right; rw [h] at hg; cases hg; omega
theorem tb_len (b h n : Nat) (p v : Value) (nm : ByteArray) (xs : List Value) (hb : W.heap[b]? = some (telB h p v nm)) (hown : W.ownsRow 0 5 1 v n xs) :
  Calls Tryz.prog 195 #[.pointer (some ⟨b, 1, none⟩)] W fun e w' => e = .returned (.int .i64 n) ∧ w' = W := by
 obtain ⟨ao, cap, rfl⟩ : ∃ ao cap, v = .slice ao n cap := by
  rcases hown.2 with ⟨hv, h0⟩ | ⟨g, cap, cur, hv, _⟩
  ·
   exact ⟨none, 0, by rw [hv, h0]⟩
  ·
   exact ⟨_, _, hv⟩
 have c1 := cellAt hb 2 (v := .slice ao n cap) rfl
 clear hb hown
 go_enter Tryz.func195, Tryz.ntmps195
 go_wp2
 go_ret
 exact ⟨rfl, rfl⟩
theorem outFreeze {W : World} {F : List Nat} {W' : World} (h : Outside F W W') {p : Addr} (hp : p.block ∈ F) (n : Nat) : Outside F W (W'.freeze p n) := by
 unfold World.freeze
 split
 ·
  exact h
 ·
  exact ⟨h.os, h.tape, h.output, by simpa using h.size, fun k hk hn => by
   simp only [Array.getElem?_modify]
   rw [if_neg (by rintro rfl; exact hn hp)]
   exact h.block k hk hn⟩
theorem tb_string (b h : Nat) (p v : Value) (nm : ByteArray) (l : List UInt8) (hb : W.heap[b]? = some (telB h p v nm)) (hown : W.ownsRow 0 5 1 v l.length (Lib.byteCells l)) :
  Calls Tryz.prog 125 #[.pointer (some ⟨b, 1, none⟩)] W fun e w' => e = .returned (.string ⟨l.toArray⟩) ∧ Outside v.ownBlock.toList W w' := by
 have hcb : Tryz.prog.cellsOf 5 = 1 := by kernel_rfl
 have hne := ownsRow_ne hown hb (by decide)
 cases l with
 | nil =>
  have hUS : ∀ (W : World) (q : Option Addr), (Builtin.unsafeString_ #[190, 3] 9 #[.pointer q, .int .i64 0]).run Tryz.prog W = .ok (.string .empty) W := fun W q => Lib.run_unsafeString_none W _ _ _ q
  rcases hown.2 with ⟨rfl, _⟩ | ⟨g, cap, cur, rfl, hbg, hg, _, _, _, _⟩
  ·
   have c1 : W.drew.cell? ⟨b, 2, none⟩ = some (.slice none 0 0) := cellAt (w := W.drew) hb 2 rfl
   have hSD : (Builtin.unsafeSliceData_ #[140] 190 #[.slice none 0 0]).run Tryz.prog W.drew = .ok (.pointer none) W.drew := rfl
   clear hb hown hcb hne
   go_enter Tryz.func125, Tryz.ntmps125
   go_wp2
   go_region
   all_goals (go_wp2; go_ret; exact ⟨rfl, Outside.drew (Outside.refl _ _)⟩)
  ·
   by_cases hc0 : cap = 0
   ·
    subst hc0
    have hSD : (Builtin.unsafeSliceData_ #[140] 190 #[.slice (some ⟨g, 0, none⟩) 0 0]).run Tryz.prog W.drew = .ok (.pointer (some ⟨W.drew.heap.size, 0, none⟩)) (W.drew.alloc (.view ⟨g, 0, none⟩ 5)) :=
     Lib.run_unsafeSliceData_zero W.drew _ _ 5 Tryz.underlying190 ⟨g, 0, none⟩ 0 (5, cur.size) (by have hg' : W.drew.heap[g]? = some (.cells cur 5 (0, 0)) := hg; simp [World.shape?, hg'])
    have c1 : W.drew.cell? ⟨b, 2, none⟩ = some (.slice (some ⟨g, 0, none⟩) 0 0) := cellAt (w := W.drew) hb 2 rfl
    have c2 : (W.drew.alloc (.view ⟨g, 0, none⟩ 5)).cell? ⟨b, 2, none⟩ = some (.slice (some ⟨g, 0, none⟩) 0 0) := cellAlloc c1 _
    have c3 : (W.alloc (.view ⟨g, 0, none⟩ 5)).drew.cell? ⟨b, 2, none⟩ = some (.slice (some ⟨g, 0, none⟩) 0 0) := c2
    have c0 : W.cell? ⟨b, 2, none⟩ = some (.slice (some ⟨g, 0, none⟩) 0 0) := c1
    clear hb hown hcb hne hg hbg
    go_enter Tryz.func125, Tryz.ntmps125
    go_wp2
    go_region
    all_goals (go_wp2; go_ret; exact ⟨rfl, Outside.alloc (Outside.drew (Outside.refl _ _)) _⟩)
   ·
    have c1 : W.drew.cell? ⟨b, 2, none⟩ = some (.slice (some ⟨g, 0, none⟩) 0 cap) := cellAt (w := W.drew) hb 2 rfl
    have hSD : (Builtin.unsafeSliceData_ #[140] 190 #[.slice (some ⟨g, 0, none⟩) 0 cap]).run Tryz.prog W.drew = .ok (.pointer (some ⟨g, 0, none⟩)) W.drew := Lib.run_unsafeSliceData_row _ _ _ _ _ _ hc0
    clear hb hown hcb hne hg hbg hc0
    go_enter Tryz.func125, Tryz.ntmps125
    go_wp2
    go_region
    all_goals (go_wp2; go_ret; exact ⟨rfl, Outside.drew (Outside.refl _ _)⟩)
 | cons x r =>
  have h0 : x :: r ≠ [] := by simp
  have hl0 : (x :: r).length ≠ 0 := by simp
  generalize x :: r = l at h0 hl0 hown
  obtain ⟨g, cap, cur, rfl, hbg, hg, hnc, hcm, hcs, htake⟩ : ∃ g cap cur, v = .slice (some ⟨g, 0, none⟩) l.length cap ∧ 0 ≤ g ∧ W.heap[g]? = some (.cells cur 5 (0, 0)) ∧ l.length ≤ cap ∧ cap ≤ maxLen ∧ cur.size = cap * 1 ∧ cur.toList.take (l.length * 1) = Lib.byteCells l := by
   rcases hown.2 with ⟨_, hz⟩ | ⟨g, cap, cur, hv, r⟩
   ·
    exact absurd hz hl0
   ·
    exact ⟨g, cap, cur, hv, r⟩
  have c1 : W.drew.cell? ⟨b, 2, none⟩ = some (.slice (some ⟨g, 0, none⟩) l.length cap) := cellAt (w := W.drew) hb 2 rfl
  have hSD : (Builtin.unsafeSliceData_ #[140] 190 #[.slice (some ⟨g, 0, none⟩) l.length cap]).run Tryz.prog W.drew = .ok (.pointer (some ⟨g, 0, none⟩)) W.drew := Lib.run_unsafeSliceData_row _ _ _ _ _ _ (by omega)
  have hUS : (Builtin.unsafeString_ #[190, 3] 9 #[.pointer (some ⟨g, 0, none⟩), .int .i64 l.length]).run Tryz.prog W.drew = .ok (.string ⟨l.toArray⟩) (W.drew.freeze ⟨g, 0, none⟩ l.length) := by
   refine Lib.run_unsafeString_row W.drew 190 3 9 5 Tryz.underlying190 hcb g cur.size (by have hg' : W.drew.heap[g]? = some (.cells cur 5 (0, 0)) := hg; simp [World.shape?, hg']) l h0 (by omega) (by unfold maxLen at hcm; omega) ?_
   intro j x hx
   have := hown.cells (g := g) rfl j (.int .u8 x.toNat) (by simp [Lib.byteCells, hx])
   exact this
  clear hb hown hcb hne hg hbg hcs htake hl0 h0
  go_enter Tryz.func125, Tryz.ntmps125
  go_wp2
  go_region
  all_goals (go_wp2; go_ret; exact ⟨rfl, outFreeze (Outside.drew (Outside.refl _ _)) (by simp [Value.ownBlock]) _⟩)
end
theorem strCells_bytes (s : ByteArray) : Lib.strCells s = Lib.byteCells s.data.toList := rfl
theorem TelM.say_out {T : TelM} (s : List UInt8) (h : T.out.length ≤ 65536) : (T.say s).out.length ≤ 65536 := by
 unfold TelM.say
 cases T.fell with
 | no =>
  simp only
  split
  ·
   exact h
  ·
   simp only [List.length_append]; omega
 | _ => exact h
section
variable {w W : World} {Rs : List Res} {t h : Nat} {T : TelM}
theorem Sep.telB (S : Sep w Rs W) (i : Nat) (hi : Rs[i]? = some (tellR t h T)) : ∃ p v : Value, (p = .pointer none ∨ p = .pointer (some ⟨t, 1, none⟩)) ∧ W.heap[t]? = some (telB h p v T.fell.name) ∧ W.ownsRow 0 5 1 v T.out.length (Lib.byteCells T.out) ∧
  ∀ (W' : World) (T' : TelM) (p' v' : Value), (p' = .pointer none ∨ p' = .pointer (some ⟨t, 1, none⟩)) → W'.heap[t]? = some (telB h p' v' T'.fell.name) → W'.ownsRow 0 5 1 v' T'.out.length (Lib.byteCells T'.out) → Outside (t :: v.ownBlock.toList) W W' →
   (∀ g, v'.ownBlock = some g → v.ownBlock = some g ∨ W.heap.size ≤ g) → Sep w (Rs.set i (tellR t h T')) W' := by
 obtain ⟨F, ⟨p, v, h1, h2, h3, h4⟩, hn, hw⟩ := S.get i hi
 refine ⟨p, v, h1, h2, h3, fun W' T' p' v' k1 k2 k3 k4 k5 => ?_⟩
 refine S.turn i hi fun F' hF' hn' _ => ?_
 obtain ⟨p2, v2, g1, g2, g3, g4⟩ := hF'
 have e := Option.some.inj (g2.symm.trans h2)
 simp only [Obj.cells.injEq, Array.mk.injEq, List.cons.injEq] at e
 obtain rfl : v2 = v := e.1.2.2.1
 refine ⟨t :: v'.ownBlock.toList, ⟨p', v', k1, k2, k3, rfl⟩, ?_, ?_, by rw [g4]; exact k4⟩
 ·
  have := ownsRow_ne k3 k2 (by decide)
  cases hv : v'.ownBlock with
  | none => simp
  | some g => rw [hv] at this; simp; rintro rfl; exact this rfl
 ·
  intro b hb
  simp only [List.mem_cons, Option.mem_toList] at hb
  rcases hb with rfl | hb
  ·
   left; rw [g4]; simp
  ·
   rcases k5 b hb with h | h
   ·
    left; rw [g4]; simp [h]
   ·
    exact .inr h
/-- The teller is done with. -/
theorem Sep.telGone (S : Sep w Rs W) (i : Nat) (hi : Rs[i]? = some (tellR t h T)) {W' : World} {v : Value} {p : Value} (hb : W.heap[t]? = some (_root_.Go.Proofs.YtijlebhoapdfnaaGreat.telB h p v T.fell.name)) (ho : Outside v.ownBlock.toList W W') : Sep w (Rs.eraseIdx i) W' := by
 have := S.turn (R' := ⟨fun _ F => F = [], fun h _ => h, fun h b hb => by rw [h] at hb; cases hb⟩) (W' := W') i hi fun F hF hn _ => by
  obtain ⟨p2, v2, g1, g2, g3, g4⟩ := hF
  have e := Option.some.inj (g2.symm.trans hb)
  simp only [Obj.cells.injEq, Array.mk.injEq, List.cons.injEq] at e
  obtain rfl : v2 = v := e.1.2.2.1
  exact ⟨[], rfl, List.nodup_nil, (fun b hb => by cases hb), ho.mono (by rw [g4]; intro b hb; simp only [List.mem_cons]; exact .inr hb)⟩
 refine this.sub ?_
 have hlt := (List.getElem?_eq_some_iff.1 hi).1
 rw [List.set_eq_take_append_cons_drop, if_pos hlt, List.eraseIdx_eq_take_drop_succ]
 exact (List.Sublist.refl _).append (List.sublist_cons_self _ _)
theorem say_ok (S : Sep w Rs W) (i : Nat) (hi : Rs[i]? = some (tellR t h T)) (s : ByteArray) (hs : s.size ≤ 1000000) (hT : T.out.length ≤ 65536) :
  Calls Tryz.prog 165 #[.pointer (some ⟨t, 0, none⟩), .string s] W fun e W' => e = .returned (.tuple #[]) ∧ Sep w (Rs.set i (tellR t h (T.say s.data.toList))) W' := by
 have hT' : (T.out.length : Int) ≤ 65536 := by omega
 have hs' : (s.size : Int) ≤ 1000000 := by omega
 by_cases hf : T.fell = .no
 ·
  obtain ⟨p, v, h1, h2, h3, h4⟩ := S.telB i hi
  have KL := Lib.hid (tb_len t h T.out.length p v T.fell.name _ h2 h3)
  have KW := Lib.hid (tb_write t h T.out.length p v T.fell.name s _ h1 h2 h3 (by omega))
  have HS := Lib.hid (And.intro h4 h2)
  rw [hf] at h2
  have c2 := cellAt h2 3 (v := .string ⟨#[]⟩) rfl
  have f2 := frozenAt h2 3
  have HF := Lib.hid hf
  have H2 := Lib.hid (And.intro h1 (And.intro h2 h3))
  clear S hi hf h1 h2 h3 h4
  by_cases hl : (T.out.length : Int) + s.size > 65536
  ·
   have e : T.say s.data.toList = ⟨T.out, .memory⟩ := by
    unfold TelM.say
    rw [HF.out]
    exact if_pos (by have : s.data.toList.length = s.size := rfl; omega)
   rw [e]
   clear KW e
   go_enter Tryz.func165, Tryz.ntmps165
   go_wp2_with fail
   refine KL.out.mono ?_
   rintro e w1 ⟨rfl, rfl⟩
   go_wp2
   go_end0
   refine ⟨rfl, HS.out.1 _ ⟨T.out, .memory⟩ p v H2.out.1 (by rw [heap_setCell_same H2.out.2.1]; rfl) ?_ ((Outside.refl _ _).setCell (.inl (by simp)) _) (fun g hg => .inl hg)⟩
   exact ownsRow_block H2.out.2.2 fun g hg => Below.heap_setCell _ _ _ _ (show g ≠ t from fun e => ownsRow_ne H2.out.2.2 H2.out.2.1 (by decide) (e ▸ hg))
  ·
   have e : T.say s.data.toList = ⟨T.out ++ s.data.toList, .no⟩ := by
    unfold TelM.say
    rw [HF.out]
    exact if_neg (by have : s.data.toList.length = s.size := rfl; omega)
   rw [e]
   clear e
   go_enter Tryz.func165, Tryz.ntmps165
   go_wp2_with fail
   refine KL.out.mono ?_
   rintro e w1 ⟨rfl, rfl⟩
   clear KL
   go_wp2_with fail
   refine KW.out.mono ?_
   rintro e w2 ⟨rfl, v', k1, k2, k3, k4, k5⟩
   go_wp2
   go_end0
   rw [HF.out] at k1
   refine ⟨rfl, HS.out.1 _ ⟨T.out ++ s.data.toList, .no⟩ _ v' (.inr rfl) k1 ?_ k3 k4⟩
   rw [strCells_bytes, ← Lib.byteCells_append] at k2
   simpa using k2
 ·
  have hn : T.say s.data.toList = T := TelM.say_fell hf _
  rw [hn, Sep.setSame hi]
  obtain ⟨p, v, h1, h2, h3, h4⟩ := S.telB i hi
  have HS := Lib.hid S
  cases hfl : T.fell with
  | no => exact absurd hfl hf
  | memory =>
   rw [hfl] at h2
   have c2 := cellAt h2 3 (v := .string memoryError) rfl
   clear S hi hf hn h1 h2 h3 h4 hfl
   go_enter Tryz.func165, Tryz.ntmps165
   go_wp2
   go_end0
   exact ⟨rfl, HS.out⟩
  | deep =>
   rw [hfl] at h2
   have c2 := cellAt h2 3 (v := .string recursionError) rfl
   clear S hi hf hn h1 h2 h3 h4 hfl
   go_enter Tryz.func165, Tryz.ntmps165
   go_wp2
   go_end0
   exact ⟨rfl, HS.out⟩
end
end Go.Proofs.YtijlebhoapdfnaaGreat
