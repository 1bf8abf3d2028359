import Derived.Test.YtobcnffjfclolaaDoorFaultA
import Derived.Test.YtobcnffjfclolaaDoorShelf
import Derived.Test.YtobcnffjfclolaaDoorObjC
import Derived.Test.YtobcnffjfclolaaDoorRows3
import Derived.Lib.LaidTab
/- fault: the table's iterator, Names, Base. -/
namespace Go.Proofs.YtobcnffjfclolaaDoor
set_option linter.unusedSimpArgs false
open Go.RowKit
set_option linter.unusedVariables false
attribute [local go_sem] Oper.semAt_some
/-- A name and its base, as the table has them. -/
def fieldF (k : Nat) : List UInt8 := (nameF k).data.toList ++ [58] ++ (baseF k).data.toList
def tableF : List UInt8 := (List.range 16).flatMap (fun k => fieldF k ++ [32]) ++ fieldF 16
theorem fields_table : Lib.fields tableF = (List.range 17).map fieldF := by decide +kernel
theorem table_small : tableF.length < 4294967281 := by decide +kernel
theorem table_ascii : ∀ b ∈ tableF, b.toNat < 128 := by decide +kernel
theorem field_small : ∀ k, k < 17 → (fieldF k).length < 1000 := by decide +kernel
theorem cut_field : ∀ k, k < 17 → Lib.cut (fieldF k) [58] = ((nameF k).data.toList, (baseF k).data.toList, true) := by decide +kernel
/-- What the library's own variables hold. -/
def GlobF (w : World) : Prop := ∀ W, Below w.heap.size w W → Lib.TabIs Tryd.prog W "strings.asciiSpace" .u8 Lib.asciiSpaceTab ∧ ∃ m, W.cell? ⟨2, 0, none⟩ = some (.int .i64 m)
def strCell (s : ByteArray) : List Value := [.string s]
theorem strCell_one (p : ByteArray) : ∀ u ∈ strCell p, u.oneCell' = true := by intro u hu; simp [strCell] at hu; subst hu; rfl
abbrev strsR (v : Value) (l : List ByteArray) : Res := rowR 9 1 strCell v l
theorem info_str : (Tryd.prog.info? 9).map (fun i => (i.zero, i.size, i.bytes)) = some (some (.string ⟨#[]⟩), 1, 16) := by kernel_rfl
def fieldsV : Array Value := ((List.range 17).map fun k => Value.string ⟨(fieldF k).toArray⟩).toArray
theorem fieldsV_get {k : Nat} (hk : k < 17) : fieldsV[k]? = some (.string ⟨(fieldF k).toArray⟩) := by
  unfold fieldsV
  rw [List.getElem?_toArray, List.getElem?_map, List.getElem?_range hk]; rfl
theorem fields_ok (W : World) (hT : Lib.TabIs Tryd.prog W "strings.asciiSpace" .u8 Lib.asciiSpaceTab) (s : ByteArray) (hs : s.data.toList = tableF) :
    Calls Tryd.prog 58 #[.string s] W fun e w' => e = .returned (.slice (some ⟨W.heap.size, 0, none⟩) 17 17) ∧ w' = W.alloc (.cells fieldsV 9) := by
  have hsz : s.size < 4294967281 := by
    have h1 : s.size = s.data.toList.length := by rw [Array.length_toList]; rfl
    rw [h1, hs]; exact table_small
  have := Tryd.strings_Fields s W hsz (fun j b hj => by rw [hs] at hj; exact table_ascii b (List.mem_of_getElem? hj)) hT
  rw [hs, fields_table] at this
  refine this.mono fun e w' ⟨e1, e2⟩ => ⟨?_, ?_⟩
  · rw [e1, List.length_map, List.length_range]
  · rw [e2, List.map_map]; rfl
theorem cut_ok (W : World) {m : Int} (hm : W.cell? ⟨2, 0, none⟩ = some (.int .i64 m)) {k : Nat} (hk : k < 17) :
    Calls Tryd.prog 59 #[.string ⟨(fieldF k).toArray⟩, .string ⟨#[58]⟩] W fun e w' => e = .returned (.tuple #[.string (nameF k), .string (baseF k), .bool true]) ∧ Below W.heap.size W w' := by
  have hsz : (⟨(fieldF k).toArray⟩ : ByteArray).size < 4294967281 := by
    have := field_small k hk
    show (fieldF k).toArray.size < _
    rw [List.size_toArray]; omega
  have := Tryd.strings_Cut ⟨(fieldF k).toArray⟩ ⟨#[58]⟩ m W hsz hm
  have e1 : Lib.cut (⟨(fieldF k).toArray⟩ : ByteArray).data.toList (⟨#[58]⟩ : ByteArray).data.toList = ((nameF k).data.toList, (baseF k).data.toList, true) := cut_field k hk
  rw [e1] at this
  refine this.mono fun e w' ⟨h1, n, h2⟩ => ⟨?_, ?_⟩
  · rw [h1]
  · rw [h2]; exact Below.drewN (Below.refl _ _) n
def allE (k : Nat) : Array Value := #[.string (nameF k), .string (baseF k)]
theorem enters_allF : Enters Tryd.prog 57 := enters_of Tryd.func57 (by kernel_rfl) rfl
theorem all_ok (W : World) : Calls Tryd.prog 36 #[] W fun e W' => e = .returned (.func (.func 57) #[] #[]) ∧ W' = W := by
  go_enter Tryd.func36, Tryd.ntmps36
  go_wp2
  go_ret
  exact ⟨rfl, rfl⟩
section
variable {w W : World} {Rs : List Res}
set_option maxRecDepth 100000 in
set_option maxHeartbeats 1600000 in
theorem all_iter (hG : GlobF w) : IterSep Tryd.prog w 57 #[] allE 17 [] := by
  intro l In Ex W1 R hY h0 S0
  rw [List.append_nil] at S0
  have HY := Lib.hid hY
  have HG := Lib.hid hG
  have CF := Lib.hid (fields_ok W1 (hG W1 S0.below).1)
  have S1 := S0.alloc (.cells fieldsV 9)
  have S2 : Sep w (R ++ [boxR W1.heap.size (.cells fieldsV 9)]) (W1.alloc (.cells fieldsV 9)) := S1.perm (by have := tail_perm1 (boxR W1.heap.size (.cells fieldsV 9)) R []; rw [List.append_nil] at this; exact this)
  replace S2 := Lib.hid S2
  have H0 := Lib.hid h0
  clear hY hG S0 S1 h0
  refine (callsIn_wide (n := 8)).1 ?_
  refine callsIn_of_wp Tryd.func57 rfl trivial ?_ rfl
  simp only [Tryd.ntmps57, List.size_toArray, List.length_cons, List.length_nil, Nat.reduceAdd, Nat.reduceSub, Array.replicate_succ, Array.replicate_zero, List.push_toArray, List.append_toArray, List.nil_append, List.cons_append]
  gi_wp2_with fail
  refine ⟨trivial, (callsIn_wide.2 (CF.out _ (by kernel_rfl))).mono ?_⟩
  rintro e w1 ⟨rfl, rfl⟩
  obtain ⟨B, hB⟩ : ∃ gx_, (W1.heap.size) = gx_ := ⟨_, rfl⟩
  rw [hB] at S2
  rw [hB]
  clear CF hB
  gi_wp2_with fail
  gi_loopw [9] (fun iv wr => ∃ (k : Nat) (R' : List Res), k ≤ 17 ∧ iv = .int .i64 k ∧ In k R' ∧ Sep w (R' ++ [boxR B (.cells fieldsV 9)]) wr) (fun iv _ => 17 - (intOf iv).toNat)
  case atStart => exact ⟨0, R, by omega, rfl, H0.out, S2.out⟩
  case round =>
    clear S2 H0
    obtain ⟨k, R2, hk, rfl, hIn, S3⟩ := hrel
    by_cases hlt : k < 17
    · have hlti : (k : Int) < 17 := by omega
      have hb := S3.box (b := B) (o := .cells fieldsV 9) R2.length (by simp)
      have z0 := cellAt hb k (fieldsV_get hlt)
      obtain ⟨m, hm⟩ := (HG.out wr S3.below).2
      have C2 := Lib.hid (cut_ok wr hm hlt)
      have HX := Lib.hid (And.intro hlt hIn)
      have S4 := Lib.hid S3
      clear S3 hb hm hIn hk
      gi_wp2_with fail
      refine ⟨trivial, (callsIn_wide.2 C2.out).mono ?_⟩
      rintro e w2 ⟨rfl, b2⟩
      have S5 := S4.out.later b2
      obtain ⟨fn, tmps, assign, body, hy, hR⟩ := HY.out k R2 w2 [boxR B (.cells fieldsV 9)] HX.out.1 HX.out.2 S5
      simp only [allE] at hy
      clear C2 S4 z0 b2 S5 hlt
      gi_wp2_with fail
      refine hR.mono ?_
      rintro e w3 (⟨rfl, R3, hR3, S6⟩ | ⟨rfl, R3, hR3, S6⟩)
      · have S7 := Lib.hid S6
        have HR3 := Lib.hid hR3
        clear hy hR S6 hR3
        gi_wp2
        exact ⟨⟨k + 1, R3, by have := HX.out.1; omega, by go_num, HR3.out, S7.out⟩, by have := HX.out.1; simp [intOf]; omega⟩
      · have S7 := Lib.hid (S6.sub (List.sublist_append_left R3 _))
        have HR3 := Lib.hid hR3
        clear hy hR S6 hR3
        gi_wp2
        refine bodyPost_ret (results_none rfl _ _ _) rfl ?_
        exact ⟨⟨_, rfl⟩, .inr ⟨k + 1, R3, by have := HX.out.1; omega, HR3.out, S7.out⟩⟩
    · obtain rfl : k = 17 := by omega
      have hlti : ¬ ((17 : Nat) : Int) < 17 := by omega
      have S4 := Lib.hid (S3.sub (List.sublist_append_left R2 _))
      have HIN := Lib.hid hIn
      clear S3 hIn hlt hk
      gi_wp2
      refine bodyPost_end (results_none rfl _ _ _) rfl ?_
      exact ⟨⟨_, rfl⟩, .inl ⟨R2, HIN.out, S4.out⟩⟩
end
end Go.Proofs.YtobcnffjfclolaaDoor
/- fault: Names, Base. -/
namespace Go.Proofs.YtobcnffjfclolaaDoor
set_option linter.unusedSimpArgs false
open Go.RowKit
set_option linter.unusedVariables false
attribute [local go_sem] Oper.semAt_some
section
variable {w W : World} {Rs : List Res}
theorem Sep.rowNil (S : Sep w Rs W) {α : Type} (e : TypeId) (m : Nat) (f : α → List Value) : Sep w (rowR e m f (.slice none 0 0) [] :: Rs) W :=
  S.addRow (Below.refl _ _) (World.ownsRow_nil _ _ _ _) (by simp [Value.ownBlock])
def takeN (k : Nat) : List ByteArray := (List.range k).map nameF
theorem takeN_succ (k : Nat) : takeN (k + 1) = takeN k ++ [nameF k] := by unfold takeN; rw [List.range_succ, List.map_append]; rfl
theorem takeN_len (k : Nat) : (takeN k).length = k := by simp [takeN]
set_option maxRecDepth 100000 in
set_option maxHeartbeats 3200000 in
theorem fnames_ok (S : Sep w Rs W) (hG : GlobF w) : Calls Tryd.prog 10 #[] W fun e W' => ∃ a c, e = .returned (.slice a 17 c) ∧ Sep w (strsR (.slice a 17 c) (takeN 17) :: Rs) W' := by
  obtain ⟨b1, hb1⟩ : ∃ gx_, (W.heap.size) = gx_ := ⟨_, rfl⟩
  have S1 := S.alloc (.cells #[.slice none 0 0] 24)
  rw [hb1] at S1
  have HS : Hid (Sep w (boxR b1 (.cells #[.slice none 0 0] 24) :: strsR (.slice none 0 0) (takeN 0) :: Rs) (W.alloc (.cells #[.slice none 0 0] 24))) := Lib.hid (S1.rowNil 9 1 strCell).swap
  have IT := Lib.hid (all_iter hG)
  clear S S1 hG
  refine (callsIn_wide (n := 9)).1 ?_
  refine callsIn_of_wp_marks Tryd.func10 rfl trivial ?_ rfl
  simp only [Tryd.ntmps10, List.size_toArray, List.length_cons, List.length_nil, Nat.reduceAdd, Nat.reduceSub, Array.replicate_succ, Array.replicate_zero, List.push_toArray, List.append_toArray, List.nil_append, List.cons_append]
  gi_wp2_with fail
  obtain ⟨W1, hW1⟩ : ∃ gx_, (W.alloc (.cells #[.slice none 0 0] 24)) = gx_ := ⟨_, rfl⟩
  rw [hW1] at HS
  rw [hW1]
  try rw [hb1]
  clear hW1 hb1
  refine ⟨trivial, (callsIn_wide.2 (all_ok W1)).mono ?_⟩
  rintro e W2 ⟨rfl, rfl⟩
  obtain ⟨c1, hB⟩ : ∃ gx_, (W2.heap.size) = gx_ := ⟨_, rfl⟩
  gi_wp2_with fail
  refine range_sep (w := w) (B := c1) hB (hg := rfl) enters_allF (fun _ => rfl)
    (fun k R => ∃ a c, R = boxR b1 (.cells #[.slice a k c] 24) :: strsR (.slice a k c) (takeN k) :: Rs)
    (fun _ _ _ => False) (n := 17) (encs := allE) IT.out ⟨none, 0, rfl⟩ (by rw [List.append_nil]; exact HS.out)
    (fun k s' => { tmps := #[.slice none 0 0, .pointer (some ⟨b1, 0, none⟩), .string (nameF k), .func (.func 57) #[] #[], .string (nameF k), .string (baseF k), undef, undef, undef, undef, undef], defers := [] })
    (fun k W => W) (fun k s => []) (fun k W Rs _ S => S) ?assign ?body ?done ?stop
  case assign =>
    intro l k W K hk hK
    simp only [allE]
    gi_wp2
    exact hK
  case body =>
    rintro l k q _ Gs W3 hk ⟨a, c, rfl⟩ S3
    simp only [List.nil_append, List.cons_append] at S3
    have c0 := cellAt (S3.box (b := b1) 0 rfl) 0 (v := .slice a k c) rfl
    have S4 := S3.alloc (.cells #[.string (nameF k)] 9)
    have hone := Lib.hid (sees_one (f := strCell) (m := 1) (y := nameF k) (heapAllocNew W3 (.cells #[.string (nameF k)] 9)) rfl)
    have HK := Lib.hid hk
    replace S4 := Lib.hid S4
    have HL := Lib.hid (show (takeN k).length + [nameF k].length ≤ 9000000 by rw [takeN_len]; simp; omega)
    clear S3 HS IT hB hk
    gi_wp2_with (gi_at_builtin; refine wpListIn_append_rows rfl _ _ 24 9 rfl Tryd.underlying24 _ 16 info_str rfl (by decide) (by decide) (fun _ => rfl) strCell_one S4.out 2 rfl rfl _ [nameF k] rfl hone.out HL.out ?_)
    intro va vc w5 S5
    simp only [takeN_len, List.length_singleton] at S5
    simp only [takeN_len, List.length_singleton]
    rw [← takeN_succ] at S5
    replace S5 : Sep w (boxR b1 (.cells #[.slice a k c] 24) :: strsR (.slice va (k + 1) vc) (takeN (k + 1)) :: (Rs ++ Gs)) w5 := S5.tail
    have d0 := cellAt (S5.box (b := b1) 0 rfl) 0 (v := .slice a k c) rfl
    have d1 := frozenAt (S5.box (b := b1) 0 rfl) 0
    have S6 := Lib.hid (S5.setBox (cs := #[.slice a k c]) (t := 24) 0 rfl 0 (.slice va (k + 1) vc))
    clear S4 S5 hone c0
    gi_wp2
    exact ⟨_, ⟨va, vc, rfl⟩, S6.out⟩
  case done =>
    rintro _ W3 ⟨a, c, rfl⟩ S3
    simp only [List.append_nil] at S3
    have c0 := cellAt (S3.box (b := b1) 1 rfl) 0 (v := .slice a 17 c) rfl
    have S4 := Lib.hid S3
    clear S3 HS IT hB
    gi_wp2
    refine ⟨by simp, .inl ⟨_, _, rfl, run_takeDeferred (S4.out.box 0 rfl), ?_⟩⟩
    have S5 := S4.out.putObj 0 rfl (.deferred none)
    exact ⟨.slice a 17 c, by simp [results, Tryd.results10, go_sem], a, c, rfl, S5.tail.tail⟩
  case stop =>
    intro _ k _ W3 hk h
    exact h.elim
theorem ba_eq {a b : ByteArray} (h : a.toList = b.toList) : a = b := by
  rw [ByteArray.toList_eq, ByteArray.toList_eq] at h
  cases a; cases b
  simp only [ByteArray.mk.injEq]
  exact Array.toList_inj.1 h
/-- The name of one's base; nothing: there is none. -/
def baseS (s : ByteArray) : ByteArray := match (List.range 17).find? (fun k => decide (nameF k = s)) with | some k => baseF k | none => ⟨#[]⟩
theorem baseS_none {s : ByteArray} (h : ∀ j, j < 17 → nameF j ≠ s) : baseS s = ⟨#[]⟩ := by
  unfold baseS
  have : (List.range 17).find? (fun k => decide (nameF k = s)) = none := by
    rw [List.find?_eq_none]
    intro j hj
    simpa using h j (List.mem_range.1 hj)
  rw [this]
theorem baseS_some {s : ByteArray} {k : Nat} (hk : k < 17) (h : nameF k = s) : baseS s = baseF k := by
  unfold baseS
  cases g : (List.range 17).find? (fun k => decide (nameF k = s)) with
  | none =>
    rw [List.find?_eq_none] at g
    exact absurd h (by simpa using g k (List.mem_range.2 hk))
  | some j =>
    have h1 := List.find?_some g
    have h2 := List.mem_range.1 (List.mem_of_find?_eq_some g)
    obtain rfl := nameF_inj j h2 k hk (by rw [h]; simpa using h1)
    rfl
set_option maxRecDepth 100000 in
set_option maxHeartbeats 3200000 in
theorem fbase_ok (S : Sep w Rs W) (hG : GlobF w) (s : ByteArray) : Calls Tryd.prog 12 #[.string s] W fun e W' => e = .returned (.string (baseS s)) ∧ Sep w Rs W' := by
  obtain ⟨b1, hb1⟩ : ∃ gx_, (W.heap.size) = gx_ := ⟨_, rfl⟩
  have S1 := (S.alloc (.cells #[.string s] 9)).alloc (.cells #[.string ⟨#[]⟩] 9)
  simp only [World.size_alloc, hb1] at S1
  replace S1 : Hid (Sep w (boxR (b1 + 1) (.cells #[.string ⟨#[]⟩] 9) :: boxR b1 (.cells #[.string s] 9) :: Rs) _) := Lib.hid S1
  have IT := Lib.hid (all_iter hG)
  clear S hG
  refine (callsIn_wide (n := 9)).1 ?_
  refine callsIn_of_wp_marks Tryd.func12 rfl trivial ?_ rfl
  simp only [Tryd.ntmps12, List.size_toArray, List.length_cons, List.length_nil, Nat.reduceAdd, Nat.reduceSub, Array.replicate_succ, Array.replicate_zero, List.push_toArray, List.append_toArray, List.nil_append, List.cons_append]
  gi_wp2_with fail
  try simp only [hb1]
  obtain ⟨W1, hW1⟩ : ∃ gx_, ((W.alloc (.cells #[.string s] 9)).alloc (.cells #[.string ⟨#[]⟩] 9)) = gx_ := ⟨_, rfl⟩
  rw [hW1] at S1
  rw [hW1]
  clear hW1 hb1
  refine ⟨trivial, (callsIn_wide.2 (all_ok W1)).mono ?_⟩
  rintro e W2 ⟨rfl, rfl⟩
  obtain ⟨c1, hB⟩ : ∃ gx_, (W2.heap.size) = gx_ := ⟨_, rfl⟩
  gi_wp2_with fail
  refine range_sep (w := w) (B := c1) hB (hg := rfl) enters_allF (fun _ => rfl)
    (fun k R => (∀ j, j < k → nameF j ≠ s) ∧ R = boxR (b1 + 1) (.cells #[.string ⟨#[]⟩] 9) :: boxR b1 (.cells #[.string s] 9) :: Rs)
    (fun c k R => c = .ret ∧ R = boxR (b1 + 1) (.cells #[.string (baseS s)] 9) :: boxR b1 (.cells #[.string s] 9) :: Rs) (n := 17) (encs := allE) IT.out ⟨fun j hj => by omega, rfl⟩ (by rw [List.append_nil]; exact S1.out)
    (fun k s' => { tmps := #[.string s, .pointer (some ⟨b1, 0, none⟩), .pointer (some ⟨b1 + 1, 0, none⟩), .string (nameF k), .string (baseF k), .func (.func 57) #[] #[], .string (nameF k), .string (baseF k), undef, undef, undef, undef], defers := [] })
    (fun k W => W) (fun k s => []) (fun k W Rs _ S => S) ?assign ?body ?done ?stop
  case assign =>
    intro l k W K hk hK
    simp only [allE]
    gi_wp2
    exact hK
  case body =>
    rintro l k q _ Gs W3 hk ⟨hno, rfl⟩ S3
    simp only [List.nil_append, List.cons_append] at S3
    have c0 := cellAt (S3.box (b := b1) 1 rfl) 0 (v := .string s) rfl
    have HK := Lib.hid (And.intro hk hno)
    clear hno IT hB S1
    by_cases e : nameF k = s
    · have hb : baseS s = baseF k := baseS_some hk e
      have HB := Lib.hid hb
      have d0 := cellAt (S3.box (b := b1 + 1) 0 rfl) 0 (v := .string ⟨#[]⟩) rfl
      have d1 := frozenAt (S3.box (b := b1 + 1) 0 rfl) 0
      have S4 := Lib.hid (S3.setBox (cs := #[.string ⟨#[]⟩]) (t := 9) 0 rfl 0 (.string (baseF k)))
      subst e
      clear S3 hb hk
      gi_wp2
      refine ⟨_, ⟨rfl, rfl⟩, ?_⟩
      rw [HB.out]; exact S4.out
    · have hne : ((nameF k).toList == s.toList) = false := by rw [beq_eq_false_iff_ne]; exact fun h => e (ba_eq h)
      have HN := Lib.hid e
      have S4 := Lib.hid S3
      clear S3 e hk
      gi_wp2
      refine ⟨_, ⟨fun j hj => ?_, rfl⟩, S4.out⟩
      by_cases e : j = k
      · subst e; exact HN.out
      · exact HK.out.2 j (by omega)
  case done =>
    rintro _ W3 ⟨hno, rfl⟩ S3
    simp only [List.append_nil] at S3
    have d0 := cellAt (S3.box (b := b1 + 1) 1 rfl) 0 (v := .string ⟨#[]⟩) rfl
    have d1 := frozenAt (S3.box (b := b1 + 1) 1 rfl) 0
    have S4 := S3.setBox (cs := #[.string ⟨#[]⟩]) (t := 9) 1 rfl 0 (.string ⟨#[]⟩)
    have q0 := cellAt (S4.box (b := b1 + 1) 1 rfl) 0 (v := .string ⟨#[]⟩) rfl
    have HN := Lib.hid (baseS_none hno)
    replace S4 := Lib.hid S4
    clear S3 S1 IT hB hno
    gi_wp2
    refine ⟨by simp, .inl ⟨_, _, rfl, run_takeDeferred (S4.out.box 0 rfl), ?_⟩⟩
    have S5 := S4.out.putObj 0 rfl (.deferred none)
    have r0 := cellAt (S5.box (b := b1 + 1) 1 rfl) 0 (v := .string ⟨#[]⟩) rfl
    rw [HN.out]
    exact ⟨.string ⟨#[]⟩, by simp [results, Tryd.results12, go_sem, r0], rfl, S5.tail.tail.tail⟩
  case stop =>
    rintro _ k _ W3 hk ⟨rfl, rfl⟩ S3
    have S4 := Lib.hid S3
    clear S3 S1 IT hB
    gi_wp2
    refine ⟨by simp, .inl ⟨_, _, rfl, run_takeDeferred (S4.out.box 0 rfl), ?_⟩⟩
    have S5 := S4.out.putObj 0 rfl (.deferred none)
    have r0 := cellAt (S5.box (b := b1 + 1) 1 rfl) 0 (v := .string (baseS s)) rfl
    exact ⟨.string (baseS s), by simp [results, Tryd.results12, go_sem, r0], rfl, S5.tail.tail.tail⟩
end
end Go.Proofs.YtobcnffjfclolaaDoor
/- ch 15: the document's Names and Base, and Same of strs. -/
namespace Go.Proofs.YtobcnffjfclolaaDoor
set_option linter.unusedSimpArgs false
open Go.RowKit
set_option linter.unusedVariables false
end Go.Proofs.YtobcnffjfclolaaDoor
/- ch 15: chain. -/
namespace Go.Proofs.YtobcnffjfclolaaDoor
set_option linter.unusedSimpArgs false
open Go.RowKit
set_option linter.unusedVariables false
section
variable {w W : World} {Rs : List Res}
end
end Go.Proofs.YtobcnffjfclolaaDoor
