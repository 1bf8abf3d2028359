import Derived.Test.YtijlebhoapdfnaaGreatNumT
import Derived.Test.YtijlebhoapdfnaaGreatRegS
import Derived.Lib.ConvBytes
/- ch 16: a builder in a block of its own. -/
set_option maxRecDepth 100000
set_option maxHeartbeats 2000000
namespace Go.Proofs.YtijlebhoapdfnaaGreat
set_option linter.unusedSimpArgs false
open Go.RowKit
set_option linter.unusedVariables false
theorem liesBB : liesAt Tryz.prog Tryz.prog.depth 142 (2 / Tryz.prog.cellsOf 142) 0 142 1 = true := by kernel_rfl
section
variable {W : World}
theorem bs_used (b : Nat) (h0 : W.cell? ⟨b, 0, none⟩ = some (.pointer (some ⟨b, 0, none⟩))) :
  Calls Tryz.prog 224 #[.pointer (some ⟨b, 0, none⟩)] W fun e w' => e = .returned (.tuple #[]) ∧ w' = W := by
 obtain ⟨j, hj, _⟩ := Option.map_eq_some_iff.1 infoTB
 go_enter Tryz.func224, Tryz.ntmps224
 go_wp2
 rw [Lib.run_neq_ptr_same W _ Tryz.underlying139 hj]
 go_wp2
 go_end0
 exact ⟨rfl, rfl⟩
theorem bs_fresh (b : Nat) (h0 : W.cell? ⟨b, 0, none⟩ = some (.pointer none)) (hsh : W.shape? b = some (142, 2)) (hfz : W.frozen? ⟨b, 0, none⟩ = false) :
  Calls Tryz.prog 224 #[.pointer (some ⟨b, 0, none⟩)] W fun e w' => e = .returned (.tuple #[]) ∧ w' = W.setCell ⟨b, 0, none⟩ (.pointer (some ⟨b, 0, none⟩)) := by
 obtain ⟨j, hj, hjs⟩ := Option.map_eq_some_iff.1 infoTB
 go_enter Tryz.func224, Tryz.ntmps224
 go_wp2
 rw [Lib.run_to_unsafe W ⟨b, 0, none⟩ Tryz.underlying139 Tryz.underlying261 hj (by rw [hjs]; decide) hsh (show 0 < 2 by decide)]
 simp only [Result.andThen]
 rw [Oper.upon_value]
 go_wp2
 rw [run_callFunc_extern Tryz.func242 (by kernel_rfl) (by kernel_rfl) (by kernel_rfl) (e := Extern.AbiNoEscape.same) (by kernel_rfl)]
 rw [Lib.run_noEscape]
 simp only [Result.andThen]
 rw [Oper.upon_value]
 go_wp2
 rw [Lib.run_from_unsafe W ⟨b, 0, none⟩ Tryz.underlying261 Tryz.underlying139 hj hsh liesBB]
 simp only [Result.andThen]
 rw [Oper.upon_value]
 go_wp2
 go_end0
 exact ⟨rfl, rfl⟩
theorem bs_string (b : Nat) (v : Value) (l : List UInt8) (c0 : W.cell? ⟨b, 1, none⟩ = some v) (hown : W.ownsRow 0 5 1 v l.length (Lib.byteCells l)) :
  Calls Tryz.prog 125 #[.pointer (some ⟨b, 0, none⟩)] W fun e w' => e = .returned (.string ⟨l.toArray⟩) ∧ Outside v.ownBlock.toList W w' := by
 have hcb : Tryz.prog.cellsOf 5 = 1 := by kernel_rfl
 cases l with
 | nil =>
  have hUS : ∀ (W : World) (q : Option Addr), (Builtin.unsafeString_ #[190, 3] 9 #[.pointer q, .int .i64 0]).run Tryz.prog W = .ok (.string .empty) W := fun W q => Lib.run_unsafeString_none W _ _ _ q
  rcases hown.2 with ⟨rfl, _⟩ | ⟨g, cap, cur, rfl, hbg, hg, _, _, _, _⟩
  ·
   have c1 : W.drew.cell? ⟨b, 1, none⟩ = some (.slice none 0 0) := c0
   have hSD : (Builtin.unsafeSliceData_ #[140] 190 #[.slice none 0 0]).run Tryz.prog W.drew = .ok (.pointer none) W.drew := rfl
   clear c0 hown hcb
   go_enter Tryz.func125, Tryz.ntmps125
   go_wp2
   go_region
   all_goals (go_wp2; go_ret; exact ⟨rfl, Outside.drew (Outside.refl _ _)⟩)
  ·
   by_cases hc0 : cap = 0
   ·
    subst hc0
    have hSD : (Builtin.unsafeSliceData_ #[140] 190 #[.slice (some ⟨g, 0, none⟩) 0 0]).run Tryz.prog W.drew = .ok (.pointer (some ⟨W.drew.heap.size, 0, none⟩)) (W.drew.alloc (.view ⟨g, 0, none⟩ 5)) :=
     Lib.run_unsafeSliceData_zero W.drew _ _ 5 Tryz.underlying190 ⟨g, 0, none⟩ 0 (5, cur.size) (by have hg' : W.drew.heap[g]? = some (.cells cur 5 (0, 0)) := hg; simp [World.shape?, hg'])
    have c1 : W.drew.cell? ⟨b, 1, none⟩ = some (.slice (some ⟨g, 0, none⟩) 0 0) := c0
    have c2 : (W.drew.alloc (.view ⟨g, 0, none⟩ 5)).cell? ⟨b, 1, none⟩ = some (.slice (some ⟨g, 0, none⟩) 0 0) := cellAlloc c1 _
    have c3 : (W.alloc (.view ⟨g, 0, none⟩ 5)).drew.cell? ⟨b, 1, none⟩ = some (.slice (some ⟨g, 0, none⟩) 0 0) := c2
    clear hown hcb hg hbg
    go_enter Tryz.func125, Tryz.ntmps125
    go_wp2
    go_region
    all_goals (go_wp2; go_ret; exact ⟨rfl, Outside.alloc (Outside.drew (Outside.refl _ _)) _⟩)
   ·
    have c1 : W.drew.cell? ⟨b, 1, none⟩ = some (.slice (some ⟨g, 0, none⟩) 0 cap) := c0
    have hSD : (Builtin.unsafeSliceData_ #[140] 190 #[.slice (some ⟨g, 0, none⟩) 0 cap]).run Tryz.prog W.drew = .ok (.pointer (some ⟨g, 0, none⟩)) W.drew := Lib.run_unsafeSliceData_row _ _ _ _ _ _ hc0
    clear c0 hown hcb hg hbg hc0
    go_enter Tryz.func125, Tryz.ntmps125
    go_wp2
    go_region
    all_goals (go_wp2; go_ret; exact ⟨rfl, Outside.drew (Outside.refl _ _)⟩)
 | cons x r =>
  have h0 : x :: r ≠ [] := by simp
  have hl0 : (x :: r).length ≠ 0 := by simp
  generalize x :: r = l at h0 hl0 hown
  obtain ⟨g, cap, cur, rfl, hbg, hg, hnc, hcm, hcs, htake⟩ : ∃ g cap cur, v = .slice (some ⟨g, 0, none⟩) l.length cap ∧ 0 ≤ g ∧ W.heap[g]? = some (.cells cur 5 (0, 0)) ∧ l.length ≤ cap ∧ cap ≤ maxLen ∧ cur.size = cap * 1 ∧ cur.toList.take (l.length * 1) = Lib.byteCells l := by
   rcases hown.2 with ⟨_, hz⟩ | ⟨g, cap, cur, hv, r⟩
   ·
    exact absurd hz hl0
   ·
    exact ⟨g, cap, cur, hv, r⟩
  have c1 : W.drew.cell? ⟨b, 1, none⟩ = some (.slice (some ⟨g, 0, none⟩) l.length cap) := c0
  have hSD : (Builtin.unsafeSliceData_ #[140] 190 #[.slice (some ⟨g, 0, none⟩) l.length cap]).run Tryz.prog W.drew = .ok (.pointer (some ⟨g, 0, none⟩)) W.drew := Lib.run_unsafeSliceData_row _ _ _ _ _ _ (by omega)
  have hUS : (Builtin.unsafeString_ #[190, 3] 9 #[.pointer (some ⟨g, 0, none⟩), .int .i64 l.length]).run Tryz.prog W.drew = .ok (.string ⟨l.toArray⟩) (W.drew.freeze ⟨g, 0, none⟩ l.length) := by
   refine Lib.run_unsafeString_row W.drew 190 3 9 5 Tryz.underlying190 hcb g cur.size (by have hg' : W.drew.heap[g]? = some (.cells cur 5 (0, 0)) := hg; simp [World.shape?, hg']) l h0 (by omega) (by unfold maxLen at hcm; omega) ?_
   intro j x hx
   have := hown.cells (g := g) rfl j (.int .u8 x.toNat) (by simp [Lib.byteCells, hx])
   exact this
  clear c0 hown hcb hg hbg hcs htake hl0 h0
  go_enter Tryz.func125, Tryz.ntmps125
  go_wp2
  go_region
  all_goals (go_wp2; go_ret; exact ⟨rfl, outFreeze (Outside.drew (Outside.refl _ _)) (by simp [Value.ownBlock]) _⟩)
end
abbrev bldB (p v : Value) : Obj := .cells #[p, v] 142
section
variable {w W : World} {Rs : List Res}
/-- A builder and its bytes. -/
def Bld (w : World) (b : Nat) (l : List UInt8) (Rs : List Res) (W : World) : Prop := ∃ p v : Value, (p = .pointer none ∨ p = .pointer (some ⟨b, 0, none⟩)) ∧ Sep w (boxR b (bldB p v) :: bytesR v l :: Rs) W
theorem Bld.made (S : Sep w Rs W) : Bld w W.heap.size [] Rs (W.alloc (bldB (.pointer none) (.slice none 0 0))) :=
 ⟨.pointer none, .slice none 0 0, .inl rfl, ((S.alloc (bldB (.pointer none) (.slice none 0 0))).addRow (Below.refl _ _) (World.ownsRow_nil _ _ _ _) (by simp [Value.ownBlock]) : Sep w (bytesR (.slice none 0 0) [] :: boxR W.heap.size _ :: Rs) _).swap⟩
theorem bs_check {b : Nat} {p v : Value} {l : List UInt8} (hp : p = .pointer none ∨ p = .pointer (some ⟨b, 0, none⟩)) (S : Sep w (boxR b (bldB p v) :: bytesR v l :: Rs) W) :
  Calls Tryz.prog 224 #[.pointer (some ⟨b, 0, none⟩)] W fun e w' => e = .returned (.tuple #[]) ∧ Sep w (boxR b (bldB (.pointer (some ⟨b, 0, none⟩)) v) :: bytesR v l :: Rs) w' := by
 have hb := S.box 0 rfl
 rcases hp with rfl | rfl
 ·
  refine (bs_fresh b (cellAt hb 0 rfl) (by simp [World.shape?, hb]) (frozenAt hb 0)).mono ?_
  rintro e w' ⟨rfl, rfl⟩
  exact ⟨rfl, S.setBox 0 rfl 0 _⟩
 ·
  refine (bs_used b (cellAt hb 0 rfl)).mono ?_
  rintro e w' ⟨rfl, rfl⟩
  exact ⟨rfl, S⟩
theorem bytes_own {v : Value} {l : List UInt8} : (l.flatMap byteCell) = Lib.byteCells l := by
 induction l with
 | nil => rfl
 | cons a l ih => rw [List.flatMap_cons, ih]; rfl
theorem bs_write {b : Nat} {l : List UInt8} (S : Bld w b l Rs W) (s : ByteArray) (hl : l.length + s.size ≤ 9000000) :
  Calls Tryz.prog 196 #[.pointer (some ⟨b, 0, none⟩), .string s] W fun e w' => e = .returned (.tuple #[.int .i64 s.size, .nilIface]) ∧ Bld w b (l ++ s.data.toList) Rs w' := by
 obtain ⟨p, v, hp, S⟩ := S
 have KC := Lib.hid (bs_check hp S)
 clear S
 go_enter Tryz.func196, Tryz.ntmps196
 go_wp2_with fail
 refine KC.out.mono ?_
 rintro e w1 ⟨rfl, S⟩
 have c1 := cellAt (S.box 0 rfl) 1 (v := v) rfl
 have hrow := S.row 1 rfl
 have hown : w1.ownsRow 0 5 1 v l.length (Lib.byteCells l) := by have h := hrow; unfold slIs at h; rw [bytes_own (v := v)] at h; exact h
 obtain ⟨v', w2, hr, hown', hgrow, hat⟩ := append_str_at hown s (by omega) 140
 have S2 : Sep w (boxR b (bldB (.pointer (some ⟨b, 0, none⟩)) v) :: bytesR v' (l ++ s.data.toList) :: Rs) w2 := by
  have := S.grown 1 rfl (v' := v') (l' := l ++ s.data.toList) (by
   unfold slIs
   rw [bytes_own (v := v), Lib.byteCells_append, List.length_append]
   exact hown') hgrow hat
  exact this
 have c2 := cellAt (S2.box 0 rfl) 1 (v := v) rfl
 have f2 := frozenAt (S2.box 0 rfl) 1
 obtain ⟨ao, n', cap, rfl⟩ : ∃ ao n' cap, v' = .slice ao n' cap := by
  rcases hown'.2 with ⟨hv, _⟩ | ⟨g, cap, cur, hv, _⟩
  ·
   exact ⟨_, _, _, hv⟩
  ·
   exact ⟨_, _, _, hv⟩
 have HN := Lib.hid (And.intro hr S2)
 clear hr S2 S hrow hown hown' hgrow hat KC
 go_wp2_with (at_builtin; refine Lib.wpList_append_run _ rfl _ _ _ _ rfl _ _ rfl rfl _ _ HN.out.1 ?_)
 go_wp2
 go_ret2
 exact ⟨rfl, _, _, .inr rfl, HN.out.2.setBox 0 rfl 1 _⟩
theorem bs_byte {b : Nat} {l : List UInt8} (S : Bld w b l Rs W) (c : UInt8) (ci : Int) (hc : ci = c.toNat) (hl : l.length + 1 ≤ 9000000) :
  Calls Tryz.prog 226 #[.pointer (some ⟨b, 0, none⟩), .int .u8 ci] W fun e w' => e = .returned .nilIface ∧ Bld w b (l ++ [c]) Rs w' := by
 subst hc
 obtain ⟨p, v, hp, S⟩ := S
 have KC := Lib.hid (bs_check hp S)
 clear S
 go_enter Tryz.func226, Tryz.ntmps226
 go_wp2_with fail
 refine KC.out.mono ?_
 rintro e w1 ⟨rfl, S⟩
 have c1 := cellAt (S.box 0 rfl) 1 (v := v) rfl
 have S2 := S.alloc (.cells #[.int .u8 c.toNat] 5)
 have hone := Lib.hid (sees_one (f := byteCell) (m := 1) (y := c) (heapAllocNew w1 (.cells #[.int .u8 c.toNat] 5)) rfl)
 replace S2 := Lib.hid S2
 clear S KC
 go_wp2_with (at_builtin; refine wpList_append_rows rfl _ _ 140 5 rfl Tryz.underlying140 _ 1 infoU8 rfl (by decide) (by decide) (fun _ => rfl) byteCell_one S2.out 2 rfl rfl _ [c] rfl hone.out (by simp; omega) ?_)
 intro va vc w2 S3
 have c2 := cellAt (S3.box 1 rfl) 1 (v := v) rfl
 have f2 := frozenAt (S3.box 1 rfl) 1
 have H3 := Lib.hid S3.tail
 clear S3 S2 hone c1
 go_wp2
 go_ret
 exact ⟨rfl, _, _, .inr rfl, H3.out.setBox 0 rfl 1 _⟩
theorem bs_end {b : Nat} {l : List UInt8} (S : Bld w b l Rs W) :
  Calls Tryz.prog 125 #[.pointer (some ⟨b, 0, none⟩)] W fun e w' => e = .returned (.string ⟨l.toArray⟩) ∧ Sep w Rs w' := by
 obtain ⟨p, v, hp, S⟩ := S
 have hrow := S.row 1 rfl
 have hown : W.ownsRow 0 5 1 v l.length (Lib.byteCells l) := by have h := hrow; unfold slIs at h; rw [bytes_own (v := v)] at h; exact h
 refine (bs_string b v l (cellAt (S.box 0 rfl) 1 rfl) hown).mono fun e w' ⟨h1, h2⟩ => ⟨h1, ?_⟩
 have := S.turn (R' := ⟨fun _ F => F = [], fun h _ => h, fun h b hb => by rw [h] at hb; cases hb⟩) (W' := w') 1 rfl fun F hF hn _ =>
  ⟨[], rfl, List.nodup_nil, (fun b hb => by cases hb), h2.mono (by rw [hF.2]; intro b hb; exact hb)⟩
 exact this.tail.tail
end
end Go.Proofs.YtijlebhoapdfnaaGreat
/- ch 16: Quote. -/
namespace Go.Proofs.YtijlebhoapdfnaaGreat
set_option linter.unusedSimpArgs false
open Go.RowKit
set_option linter.unusedVariables false
theorem belowBytes (w : World) (e : TypeId) (s : ByteArray) : Below w.heap.size w (Lib.bytesWorld w e s) :=
 ⟨rfl, rfl, rfl, by rw [Lib.bytesWorld_size]; omega, fun k h => Lib.bytesWorld_at_old w e s k h⟩
section
variable {w W : World} {Rs : List Res}
theorem Bld.drew {b : Nat} {l : List UInt8} (S : Bld w b l Rs W) : Bld w b l Rs W.drew := by
 obtain ⟨p, v, hp, S⟩ := S
 exact ⟨p, v, hp, S.drew⟩
/-- A string's bytes beside a builder. -/
theorem Bld.bytes {b : Nat} {l : List UInt8} (S : Bld w b l Rs W) (s : ByteArray) : ∃ (g : Nat) (o : Obj), g = W.heap.size ∧ Bld w b l (boxR g o :: Rs) (Lib.bytesWorld W 5 s) ∧ ∀ (W' : World), W'.heap[g]? = some o → ∀ (j : Nat) (c : UInt8), s.data.toList[j]? = some c → W'.cell? ⟨g, j, none⟩ = some (.int .u8 c.toNat) := by
 obtain ⟨p, v, hp, S⟩ := S
 have hn := Lib.bytesWorld_at_new W 5 s
 refine ⟨W.heap.size, .cells (Lib.bytesCells W 5 s) 5 ((Lib.bytesCells W 5 s).size, (Lib.bytesCells W 5 s).size + 1), rfl, ⟨p, v, hp, ?_⟩, fun W' hW j c hj => ?_⟩
 ·
  have S2 := S.add (belowBytes W 5 s) (R := boxR W.heap.size (.cells (Lib.bytesCells W 5 s) 5 ((Lib.bytesCells W 5 s).size, (Lib.bytesCells W 5 s).size + 1))) (G := [W.heap.size]) ⟨hn, rfl⟩ (by simp) (by simp)
  exact S2.perm ((List.Perm.swap _ _ _).trans (.cons _ (List.Perm.swap _ _ _)))
 ·
  have hlt : j < s.size := (List.getElem?_eq_some_iff.1 hj).1
  have h1 := Lib.bytesWorld_cell W 5 s j hlt
  have h2 : s.data.toList.getD j 0 = c := by rw [List.getD_eq_getElem?_getD, hj]; rfl
  rw [h2] at h1
  simp only [World.cell?, hn] at h1
  simp only [World.cell?, hW]
  exact h1
theorem and15 (c : UInt8) : bits .and .u8 (c.toNat : Int) 15 = ((c.toNat % 16 : Nat) : Int) := by
 have h : ∀ n : Fin 256, bits .and .u8 (n.val : Int) 15 = ((n.val % 16 : Nat) : Int) := by decide +kernel
 exact h ⟨c.toNat, c.toNat_lt⟩
abbrev hexS : ByteArray := ⟨#[48, 49, 50, 51, 52, 53, 54, 55, 56, 57, 97, 98, 99, 100, 101, 102]⟩
theorem hex_at (n : Nat) (h : n < 16) : hexS.extract n (n + 1) = ⟨#[hexD n]⟩ := by
 have h : ∀ n : Fin 16, hexS.extract n.val (n.val + 1) = ⟨#[hexD n.val]⟩ := by decide +kernel
 exact h ⟨n, by omega⟩
theorem quote_snoc {L : List UInt8} {k : Nat} {c : UInt8} (h : L[k]? = some c) : 39 :: (L.take (k + 1)).flatMap quoteC = (39 :: (L.take k).flatMap quoteC) ++ quoteC c := by
 rw [List.take_add_one, h, List.flatMap_append]; simp
theorem quoteC_len (c : UInt8) : (quoteC c).length ≤ 4 := by
 unfold quoteC
 repeat' split
 all_goals simp
theorem quote_len (L : List UInt8) : (L.flatMap quoteC).length ≤ 4 * L.length := by
 induction L with
 | nil => simp
 | cons c L ih => rw [List.flatMap_cons, List.length_append, List.length_cons]; have := quoteC_len c; omega
theorem quote_ok (S : Sep w Rs W) (s : ByteArray) (hs : s.size ≤ 1000000) : Calls Tryz.prog 198 #[.string s] W fun e W' => e = .returned (.string ⟨(quoteL s.data.toList).toArray⟩) ∧ Sep w Rs W' := by
 obtain ⟨b, hb⟩ : ∃ gx_, (W.heap.size) = gx_ := ⟨_, rfl⟩
 have B0 := Bld.made S
 rw [hb] at B0
 have K1 := Lib.hid (bs_byte B0 39 39 rfl (by simp))
 have hcv := fun (w : World) => Lib.run_convert_string_bytes (P := Tryz.prog) w 9 140 5 s Tryz.underlying9 Tryz.underlying140 Tryz.underlying5
 clear S B0
 go_enter Tryz.func198, Tryz.ntmps198
 go_wp2_with fail
 try simp only [hb]
 refine K1.out.mono ?_
 rintro e w1 ⟨rfl, B1⟩
 obtain ⟨g, o, hg, B2, hc⟩ := B1.bytes s
 have H2 := Lib.hid (And.intro B2 (And.intro hc hs))
 obtain ⟨L, hL⟩ : ∃ L, s.data.toList = L := ⟨_, rfl⟩
 have hLn : s.size = L.length := by rw [← hL]; rfl
 have HL := Lib.hid (And.intro hL hLn)
 have hn1 : (s.size : Int) ≤ 1000000 := by omega
 clear K1 B1 B2 hc hb hL hLn hs
 go_wp2
 try rw [← hg]
 clear hg hcv
 go_loopw [10] (fun kv wr => ∃ k : Nat, k ≤ s.size ∧ kv = .int .i64 k ∧ Bld w b (39 :: (L.take k).flatMap quoteC) (boxR g o :: Rs) wr) (fun kv _ => s.size - (intOf kv).toNat)
 case atStart => exact ⟨0, by omega, rfl, by simpa using H2.out.1⟩
 case round =>
  obtain ⟨k, hk, rfl, B⟩ := hrel
  have hki : (k : Int) ≤ s.size := by omega
  by_cases hlt : k < s.size
  ·
   have hlti : (k : Int) < s.size := by omega
   have hk0 : (0 : Int) ≤ k := by omega
   obtain ⟨c, hc⟩ : ∃ c, L[k]? = some c := ⟨L[k]'(by have := HL.out.2; omega), by simp⟩
   have hbox : wr.heap[g]? = some o := by obtain ⟨p, v, _, S⟩ := B; exact S.box 2 rfl
   have c0 := H2.out.2.1 wr hbox k c (by rw [HL.out.1]; exact hc)
   obtain ⟨ci, hci⟩ : ∃ ci : Int, (c.toNat : Int) = ci := ⟨_, rfl⟩
   rw [hci] at c0
   have hc255 : 0 ≤ ci ∧ ci ≤ 255 := by have := c.toNat_lt; omega
   obtain ⟨hci0, hci1⟩ := hc255
   have HK := Lib.hid (And.intro hc (And.intro hci (And.intro hlt hk)))
   have HQ := Lib.hid (quote_snoc hc)
   have hln : (39 :: (L.take k).flatMap quoteC).length ≤ 8000000 := by
    have h1 := quote_len (L.take k)
    have h2 := HL.out.2
    have h3 := H2.out.2.2
    rw [List.length_take] at h1
    simp only [List.length_cons]; omega
   have HW : Hid (∀ (t : ByteArray) (W : World), t.size ≤ 10 → Bld w b (39 :: (L.take k).flatMap quoteC) (boxR g o :: Rs) W → Calls Tryz.prog 196 #[.pointer (some ⟨b, 0, none⟩), .string t] W fun e w' => e = .returned (.tuple #[.int .i64 t.size, .nilIface]) ∧ Bld w b ((39 :: (L.take k).flatMap quoteC) ++ t.data.toList) (boxR g o :: Rs) w') := Lib.hid fun t W ht S => bs_write S t (by omega)
   have HB : Hid (Calls Tryz.prog 226 #[.pointer (some ⟨b, 0, none⟩), .int .u8 ci] wr fun e w' => e = .returned .nilIface ∧ Bld w b ((39 :: (L.take k).flatMap quoteC) ++ [c]) (boxR g o :: Rs) w') := Lib.hid (bs_byte B c ci hci.symm (by omega))
   have BW := Lib.hid B
   have hcu : ∀ n : Nat, n < 256 → ((c = n.toUInt8) ↔ ci = n) := fun n hn => by
    rw [← hci, ← UInt8.toNat_inj]
    simp [Nat.toUInt8, UInt8.toNat_ofNat']; omega
   have HCU := Lib.hid hcu
   clear B hbox hc hci hlt hk hln hcu
   have DONE : Hid (∀ (wx : World) (l : List UInt8), quoteC c = l → Bld w b ((39 :: (L.take k).flatMap quoteC) ++ l) (boxR g o :: Rs) wx → Bld w b (39 :: (L.take (k + 1)).flatMap quoteC) (boxR g o :: Rs) wx) := Lib.hid fun wx l hl S => by
    rw [HQ.out, hl]; exact S
   by_cases e1 : ci = 10
   ·
    subst e1
    have K2 := Lib.hid (HW.out ⟨#[92, 110]⟩ _ (by decide) BW.out)
    go_wp2_with fail
    refine K2.out.mono ?_
    rintro e w3 ⟨rfl, B3⟩
    have B4 := Lib.hid (DONE.out _ [92, 110] (by have : c = 10 := (HCU.out 10 (by decide)).2 rfl; rw [this]; rfl) B3)
    clear B3 K2 HB HW
    go_wp2
    exact ⟨⟨k + 1, by have := HK.out.2.2.1; omega, by go_num, B4.out⟩, by have := HK.out.2.2.1; simp [intOf]; omega⟩
   ·
    by_cases e2 : ci = 9
    ·
     subst e2
     have K2 := Lib.hid (HW.out ⟨#[92, 116]⟩ _ (by decide) BW.out)
     go_wp2_with fail
     refine K2.out.mono ?_
     rintro e w3 ⟨rfl, B3⟩
     have B4 := Lib.hid (DONE.out _ [92, 116] (by have : c = 9 := (HCU.out 9 (by decide)).2 rfl; rw [this]; rfl) B3)
     clear B3 K2 HB HW
     go_wp2
     exact ⟨⟨k + 1, by have := HK.out.2.2.1; omega, by go_num, B4.out⟩, by have := HK.out.2.2.1; simp [intOf]; omega⟩
    ·
     by_cases e3 : ci = 92
     ·
      subst e3
      have hu : Utf8.encode 92 = ⟨#[92]⟩ := by decide
      have K2 := Lib.hid (HW.out (⟨#[92]⟩ ++ ⟨#[92]⟩) _ (by decide) BW.out)
      go_wp2_with fail
      refine K2.out.mono ?_
      rintro e w3 ⟨rfl, B3⟩
      have B4 := Lib.hid (DONE.out _ [92, 92] (by have : c = 92 := (HCU.out 92 (by decide)).2 rfl; rw [this]; rfl) B3)
      clear B3 K2 HB HW
      go_wp2
      exact ⟨⟨k + 1, by have := HK.out.2.2.1; omega, by go_num, B4.out⟩, by have := HK.out.2.2.1; simp [intOf]; omega⟩
     ·
      by_cases e4 : ci = 39
      ·
       subst e4
       have hu : Utf8.encode 39 = ⟨#[39]⟩ := by decide
       have K2 := Lib.hid (HW.out (⟨#[92]⟩ ++ ⟨#[39]⟩) _ (by decide) BW.out)
       go_wp2_with fail
       refine K2.out.mono ?_
       rintro e w3 ⟨rfl, B3⟩
       have B4 := Lib.hid (DONE.out _ [92, 39] (by have : c = 39 := (HCU.out 39 (by decide)).2 rfl; rw [this]; rfl) B3)
       clear B3 K2 HB HW
       go_wp2
       exact ⟨⟨k + 1, by have := HK.out.2.2.1; omega, by go_num, B4.out⟩, by have := HK.out.2.2.1; simp [intOf]; omega⟩
      ·
       have hcn : c ≠ 10 ∧ c ≠ 9 ∧ ¬(c = 92 ∨ c = 39) := ⟨fun h => e1 ((HCU.out 10 (by decide)).1 h), fun h => e2 ((HCU.out 9 (by decide)).1 h), fun h => by
        rcases h with h | h
        ·
         exact e3 ((HCU.out 92 (by decide)).1 h)
        ·
         exact e4 ((HCU.out 39 (by decide)).1 h)⟩
       have g3 : (ci == 92) = false := by simp [e3]
       have g4 : (ci == 39) = false := by simp [e4]
       have g5 : ¬((ci == 92) = true ∨ (ci == 39) = true) := by rw [g3, g4]; simp
       have hcl : (c < 32 ∨ 126 < c) ↔ (ci < 32 ∨ 126 < ci) := by
        rw [UInt8.lt_iff_toNat_lt, UInt8.lt_iff_toNat_lt, ← HK.out.2.1]
        simp; omega
       by_cases e5 : ci < 32 ∨ 126 < ci
       ·
        have HH : Hid (quoteC c = [92, 120, hexD (c.toNat / 16), hexD (c.toNat % 16)]) := Lib.hid (by
         unfold quoteC
         rw [if_neg hcn.1, if_neg hcn.2.1, if_neg hcn.2.2, if_pos (hcl.2 e5)])
        clear hcn hcl
        by_cases e6 : ci < 32
        ·
         skip
         -- REGION14 BEGIN
         have hk3 := HK.out.2.1
         obtain ⟨hi, hhi⟩ : ∃ hi : Int, ((c.toNat / 16 : Nat) : Int) = hi := ⟨_, rfl⟩
         obtain ⟨lo, hlo⟩ : ∃ lo : Int, ((c.toNat % 16 : Nat) : Int) = lo := ⟨_, rfl⟩
         have hhi2 : ci / 16 = hi := by omega
         have hlo2 : bits .and .u8 ci 15 = lo := by rw [← hk3, and15, hlo]
         have b1 : 0 ≤ hi := by omega
         have b2 : hi < 16 := by omega
         have b3 : 0 ≤ lo := by omega
         have b4 : lo < 16 := by omega
         have w1_ : IntKind.u8.wrap (hi + 1) = hi + 1 := by simp [IntKind.wrap, IntKind.bits, IntKind.signed]; omega
         have w2_ : IntKind.u8.wrap (lo + 1) = lo + 1 := by simp [IntKind.wrap, IntKind.bits, IntKind.signed]; omega
         have w3_ : hi + 1 ≤ 16 := by omega
         have w4_ : lo + 1 ≤ 16 := by omega
         have w5_ : hi ≤ hi + 1 := by omega
         have w6_ : lo ≤ lo + 1 := by omega
         have w7_ : ¬ 9223372036854775807 < 2 + ((hi + 1).toNat - hi.toNat) := by omega
         have w8_ : ¬ 9223372036854775807 < 2 + ((hi + 1).toNat - hi.toNat) + ((lo + 1).toNat - lo.toNat) := by omega
         have x1 : hexS.extract hi.toNat (hi + 1).toNat = ⟨#[hexD (c.toNat / 16)]⟩ := by
          have : hi.toNat = c.toNat / 16 := by omega
          rw [show (hi + 1).toNat = hi.toNat + 1 by omega, this]
          exact hex_at _ (by omega)
         have x2 : hexS.extract lo.toNat (lo + 1).toNat = ⟨#[hexD (c.toNat % 16)]⟩ := by
          have : lo.toNat = c.toNat % 16 := by omega
          rw [show (lo + 1).toNat = lo.toNat + 1 by omega, this]
          exact hex_at _ (by omega)
         have HSZ : Hid (((⟨#[92, 120]⟩ : ByteArray) ++ hexS.extract hi.toNat (hi + 1).toNat ++ hexS.extract lo.toNat (lo + 1).toNat).size ≤ 10) := Lib.hid (by rw [x1, x2, ByteArray.size_append, ByteArray.size_append]; exact (by decide : (2 + 1 + 1 : Nat) ≤ 10))
         have HSE : Hid (((⟨#[92, 120]⟩ : ByteArray) ++ hexS.extract hi.toNat (hi + 1).toNat ++ hexS.extract lo.toNat (lo + 1).toNat).data.toList = [92, 120, hexD (c.toNat / 16), hexD (c.toNat % 16)]) := Lib.hid (by rw [x1, x2]; rfl)
         have BQ := Lib.hid (Bld.drew BW.out)
         clear x1 x2 hhi hlo hk3
         go_upto_region 14 with fail
         refine wp_region_held_drew (S := fun W => True) (by kernel_rfl) ((fun (_ : List Nat) (_ : True) => trivial) [] trivial) (fun hH => ?_)
         refine takeT 0 hH (hy := .inl ⟨by rfl, by (intro w hSw; try obtain ⟨⟩ := hSw); (go_simp; try rfl)⟩) (h := ?_)
         simp only [pu]
         refine takeT 1 hH (hy := .inl ⟨by rfl, by (intro w hSw; try obtain ⟨⟩ := hSw); (go_simp; try rfl)⟩) (h := ?_)
         simp only [pu]
         refine takeT 2 hH (hy := .inl ⟨by rfl, by (intro w hSw; try obtain ⟨⟩ := hSw); (go_simp; try rfl)⟩) (h := ?_)
         simp only [pu]
         refine takeT 3 hH (hy := .inl ⟨by rfl, by (intro w hSw; try obtain ⟨⟩ := hSw); (go_simp; try rfl)⟩) (h := ?_)
         simp only [pu]
         refine takeT 4 hH (hy := .inl ⟨by rfl, by (intro w hSw; try obtain ⟨⟩ := hSw); (go_simp; try rfl)⟩) (h := ?_)
         simp only [pu]
         refine takeT 5 hH (hy := .inl ⟨by rfl, by (intro w hSw; try obtain ⟨⟩ := hSw); (go_simp; try rfl)⟩) (h := ?_)
         simp only [pu]
         refine takeT 6 hH (hy := .inl ⟨by rfl, by (intro w hSw; try obtain ⟨⟩ := hSw); (go_simp; try rfl)⟩) (h := ?_)
         simp only [pu]
         refine takeT 7 hH (hy := .inl ⟨by rfl, by (intro w hSw; try obtain ⟨⟩ := hSw); (go_simp; try rfl)⟩) (h := ?_)
         simp only [pu]
         refine takeT 8 hH (hy := .inl ⟨by rfl, by (intro w hSw; try obtain ⟨⟩ := hSw); (go_simp; try rfl)⟩) (h := ?_)
         simp only [pu]
         refine takeT 9 hH (hy := .inl ⟨by rfl, by (intro w hSw; try obtain ⟨⟩ := hSw); (go_simp; try rfl)⟩) (h := ?_)
         simp only [pu]
         refine takeT 10 hH (hy := .inl ⟨by rfl, by (intro w hSw; try obtain ⟨⟩ := hSw); (go_simp; try rfl)⟩) (h := ?_)
         simp only [pu]
         refine takeT 11 hH (hy := .inl ⟨by rfl, by (intro w hSw; try obtain ⟨⟩ := hSw); (go_simp; try rfl)⟩) (h := ?_)
         simp only [pu]
         refine takeT 12 hH (hy := .inl ⟨by rfl, by (intro w hSw; try obtain ⟨⟩ := hSw); (go_simp; try rfl)⟩) (h := ?_)
         simp only [pu]
         refine takeT 13 hH (hy := .inl ⟨by rfl, by (intro w hSw; try obtain ⟨⟩ := hSw); (go_simp; try rfl)⟩) (h := ?_)
         simp only [pu]
         refine readyT [14] ?_
         refine consT (fun K hK => ?_) AllReadyH.nil
         go_simp
         go_wp2_with (go_at_call 196; refine (HW.out _ _ HSZ.out BQ.out).mono ?_; rintro e w1 ⟨rfl, B1⟩; have T1 : True := trivial; have B4 := Lib.hid (DONE.out _ [92, 120, hexD (c.toNat / 16), hexD (c.toNat % 16)] HH.out (by rw [HSE.out] at B1; exact B1)))
         clear hH
         refine hK.out _ _ ((fun (_ : List Nat) (_ : True) => trivial) [] T1) (fun hH => ?_)
         clear hK K
         refine wpAnyH_done (by kernel_rfl) ?_ _
         as_aux_lemma =>
          go_wp2_with fail
          exact ⟨⟨k + 1, by have := HK.out.2.2.1; omega, by go_num, B4.out⟩, by have := HK.out.2.2.1; simp [intOf]; omega⟩
         -- REGION14 END
        ·
         have e7 : 126 < ci := by omega
         -- REGION14 BEGIN
         have hk3 := HK.out.2.1
         obtain ⟨hi, hhi⟩ : ∃ hi : Int, ((c.toNat / 16 : Nat) : Int) = hi := ⟨_, rfl⟩
         obtain ⟨lo, hlo⟩ : ∃ lo : Int, ((c.toNat % 16 : Nat) : Int) = lo := ⟨_, rfl⟩
         have hhi2 : ci / 16 = hi := by omega
         have hlo2 : bits .and .u8 ci 15 = lo := by rw [← hk3, and15, hlo]
         have b1 : 0 ≤ hi := by omega
         have b2 : hi < 16 := by omega
         have b3 : 0 ≤ lo := by omega
         have b4 : lo < 16 := by omega
         have w1_ : IntKind.u8.wrap (hi + 1) = hi + 1 := by simp [IntKind.wrap, IntKind.bits, IntKind.signed]; omega
         have w2_ : IntKind.u8.wrap (lo + 1) = lo + 1 := by simp [IntKind.wrap, IntKind.bits, IntKind.signed]; omega
         have w3_ : hi + 1 ≤ 16 := by omega
         have w4_ : lo + 1 ≤ 16 := by omega
         have w5_ : hi ≤ hi + 1 := by omega
         have w6_ : lo ≤ lo + 1 := by omega
         have w7_ : ¬ 9223372036854775807 < 2 + ((hi + 1).toNat - hi.toNat) := by omega
         have w8_ : ¬ 9223372036854775807 < 2 + ((hi + 1).toNat - hi.toNat) + ((lo + 1).toNat - lo.toNat) := by omega
         have x1 : hexS.extract hi.toNat (hi + 1).toNat = ⟨#[hexD (c.toNat / 16)]⟩ := by
          have : hi.toNat = c.toNat / 16 := by omega
          rw [show (hi + 1).toNat = hi.toNat + 1 by omega, this]
          exact hex_at _ (by omega)
         have x2 : hexS.extract lo.toNat (lo + 1).toNat = ⟨#[hexD (c.toNat % 16)]⟩ := by
          have : lo.toNat = c.toNat % 16 := by omega
          rw [show (lo + 1).toNat = lo.toNat + 1 by omega, this]
          exact hex_at _ (by omega)
         have HSZ : Hid (((⟨#[92, 120]⟩ : ByteArray) ++ hexS.extract hi.toNat (hi + 1).toNat ++ hexS.extract lo.toNat (lo + 1).toNat).size ≤ 10) := Lib.hid (by rw [x1, x2, ByteArray.size_append, ByteArray.size_append]; exact (by decide : (2 + 1 + 1 : Nat) ≤ 10))
         have HSE : Hid (((⟨#[92, 120]⟩ : ByteArray) ++ hexS.extract hi.toNat (hi + 1).toNat ++ hexS.extract lo.toNat (lo + 1).toNat).data.toList = [92, 120, hexD (c.toNat / 16), hexD (c.toNat % 16)]) := Lib.hid (by rw [x1, x2]; rfl)
         have BQ := Lib.hid (Bld.drew BW.out)
         clear x1 x2 hhi hlo hk3
         go_upto_region 14 with fail
         refine wp_region_held_drew (S := fun W => True) (by kernel_rfl) ((fun (_ : List Nat) (_ : True) => trivial) [] trivial) (fun hH => ?_)
         refine takeT 0 hH (hy := .inl ⟨by rfl, by (intro w hSw; try obtain ⟨⟩ := hSw); (go_simp; try rfl)⟩) (h := ?_)
         simp only [pu]
         refine takeT 1 hH (hy := .inl ⟨by rfl, by (intro w hSw; try obtain ⟨⟩ := hSw); (go_simp; try rfl)⟩) (h := ?_)
         simp only [pu]
         refine takeT 2 hH (hy := .inl ⟨by rfl, by (intro w hSw; try obtain ⟨⟩ := hSw); (go_simp; try rfl)⟩) (h := ?_)
         simp only [pu]
         refine takeT 3 hH (hy := .inl ⟨by rfl, by (intro w hSw; try obtain ⟨⟩ := hSw); (go_simp; try rfl)⟩) (h := ?_)
         simp only [pu]
         refine takeT 4 hH (hy := .inl ⟨by rfl, by (intro w hSw; try obtain ⟨⟩ := hSw); (go_simp; try rfl)⟩) (h := ?_)
         simp only [pu]
         refine takeT 5 hH (hy := .inl ⟨by rfl, by (intro w hSw; try obtain ⟨⟩ := hSw); (go_simp; try rfl)⟩) (h := ?_)
         simp only [pu]
         refine takeT 6 hH (hy := .inl ⟨by rfl, by (intro w hSw; try obtain ⟨⟩ := hSw); (go_simp; try rfl)⟩) (h := ?_)
         simp only [pu]
         refine takeT 7 hH (hy := .inl ⟨by rfl, by (intro w hSw; try obtain ⟨⟩ := hSw); (go_simp; try rfl)⟩) (h := ?_)
         simp only [pu]
         refine takeT 8 hH (hy := .inl ⟨by rfl, by (intro w hSw; try obtain ⟨⟩ := hSw); (go_simp; try rfl)⟩) (h := ?_)
         simp only [pu]
         refine takeT 9 hH (hy := .inl ⟨by rfl, by (intro w hSw; try obtain ⟨⟩ := hSw); (go_simp; try rfl)⟩) (h := ?_)
         simp only [pu]
         refine takeT 10 hH (hy := .inl ⟨by rfl, by (intro w hSw; try obtain ⟨⟩ := hSw); (go_simp; try rfl)⟩) (h := ?_)
         simp only [pu]
         refine takeT 11 hH (hy := .inl ⟨by rfl, by (intro w hSw; try obtain ⟨⟩ := hSw); (go_simp; try rfl)⟩) (h := ?_)
         simp only [pu]
         refine takeT 12 hH (hy := .inl ⟨by rfl, by (intro w hSw; try obtain ⟨⟩ := hSw); (go_simp; try rfl)⟩) (h := ?_)
         simp only [pu]
         refine takeT 13 hH (hy := .inl ⟨by rfl, by (intro w hSw; try obtain ⟨⟩ := hSw); (go_simp; try rfl)⟩) (h := ?_)
         simp only [pu]
         refine readyT [14] ?_
         refine consT (fun K hK => ?_) AllReadyH.nil
         go_simp
         go_wp2_with (go_at_call 196; refine (HW.out _ _ HSZ.out BQ.out).mono ?_; rintro e w1 ⟨rfl, B1⟩; have T1 : True := trivial; have B4 := Lib.hid (DONE.out _ [92, 120, hexD (c.toNat / 16), hexD (c.toNat % 16)] HH.out (by rw [HSE.out] at B1; exact B1)))
         clear hH
         refine hK.out _ _ ((fun (_ : List Nat) (_ : True) => trivial) [] T1) (fun hH => ?_)
         clear hK K
         refine wpAnyH_done (by kernel_rfl) ?_ _
         as_aux_lemma =>
          go_wp2_with fail
          exact ⟨⟨k + 1, by have := HK.out.2.2.1; omega, by go_num, B4.out⟩, by have := HK.out.2.2.1; simp [intOf]; omega⟩
         -- REGION14 END
       ·
        have HH : Hid (quoteC c = [c]) := Lib.hid (by
         unfold quoteC
         rw [if_neg hcn.1, if_neg hcn.2.1, if_neg hcn.2.2, if_neg (fun h => e5 (hcl.1 h))])
        have e6 : ¬ ci < 32 := by omega
        have e7 : ¬ 126 < ci := by omega
        clear hcn hcl e5
        go_wp2_with fail
        refine HB.out.mono ?_
        rintro e w3 ⟨rfl, B3⟩
        have B4 := Lib.hid (DONE.out _ [c] HH.out B3)
        clear B3 HB HW
        go_wp2
        exact ⟨⟨k + 1, by have := HK.out.2.2.1; omega, by go_num, B4.out⟩, by have := HK.out.2.2.1; simp [intOf]; omega⟩
  ·
   have hkn : k = s.size := by omega
   have hq : 39 :: (L.take k).flatMap quoteC = 39 :: L.flatMap quoteC := by rw [hkn, HL.out.2, List.take_length]
   rw [hq] at B
   have hln := quote_len L
   have K2 := Lib.hid (bs_byte B 39 39 rfl (by have h2 := HL.out.2; have h3 := H2.out.2.2; simp only [List.length_cons]; omega))
   have HE : Hid ((39 :: L.flatMap quoteC) ++ [39] = quoteL s.data.toList) := Lib.hid (by rw [HL.out.1]; rfl)
   clear B hq hk hln
   go_wp2_with fail
   refine K2.out.mono ?_
   rintro e w3 ⟨rfl, B3⟩
   rw [HE.out] at B3
   have K3 := Lib.hid (bs_end B3)
   clear K2 B3 HE
   go_wp2_with fail
   refine K3.out.mono ?_
   rintro e w4 ⟨rfl, S4⟩
   have HS := Lib.hid S4.tail
   clear K3 S4
   go_wp2
   go_ret
   exact ⟨rfl, HS.out⟩
end
end Go.Proofs.YtijlebhoapdfnaaGreat
