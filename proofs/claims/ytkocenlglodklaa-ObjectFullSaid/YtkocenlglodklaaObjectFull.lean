/-
  ObjectFull: for a class or an instance, and whichever of its names is set anew, the law returns true: one that has as many attributes as a dict may have takes no other one, and one that it has it takes anew. No condition.
-/
import Derived.Test.YtkocenlglodklaaShowC
import Derived.Test.YtkocenlglodklaaFullM
import Derived.Test.YtkocenlglodklaaLocal
import Derived.Test.YtkocenlglodklaaLawA
import Derived.Test.YtkocenlglodklaaShowB
import Derived.Laws.IdiomStrings
namespace Go.Proofs.Ytkocenlglodklaa.objectFull
set_option linter.unusedSimpArgs false
open Go.ChangeShapes Go.WideShapes Go.ChangeAt Go.RowKit
open Go.ChangeMaps (open_string)
set_option linter.unusedVariables false
section
variable {w W : World} {Rs : List Res} {h : Nat} {H : HeapM}
theorem kf_make (S : Sep w Rs W) (i : Nat) (hi : Rs[i]? = some (heapR h ⟨[], 0⟩)) :
    Calls Try.prog 19 #[.pointer (some ⟨h, 0, none⟩), .int .i64 3, .string ⟨#[]⟩, .int .i64 0, .slice none 0 0] W fun e W' => e = .returned (.agg #[.int .i64 4, .int .i64 1, .string ⟨#[]⟩]) ∧ Sep w (Rs.set i (heapR h dictH)) W' :=
  S.make i hi good_empty (by omega) dictO (.slice none 0 0) (seesV_nil W) (by simp [dictO]) rfl (by simp [dictO]) (by simp [dictO])
theorem kf_class (S : Sep w Rs W) (i : Nat) (hi : Rs[i]? = some (heapR h dictH)) :
    Calls Try.prog 28 #[.pointer (some ⟨h, 0, none⟩), .string ⟨#[67]⟩, .slice none 0 0, .agg #[.int .i64 4, .int .i64 1, .string ⟨#[]⟩]] W fun e W' => e = .returned (.tuple #[.agg #[.int .i64 4, .int .i64 2, .string ⟨#[]⟩], excZ]) ∧ Sep w (Rs.set i (heapR h clsH)) W' := by
  have := class_ok S i hi dictH_fit ⟨#[67]⟩ (by decide) none 0 [] (fun W' _ => seesV_nil W') r1F (by decide)
  rw [clsH_mk] at this
  unfold ClassDone at this
  exact this
theorem kf_inst (S : Sep w Rs W) (i : Nat) (hi : Rs[i]? = some (heapR h clsH)) :
    Calls Try.prog 18 #[.pointer (some ⟨h, 0, none⟩), .agg #[.int .i64 4, .int .i64 2, .string ⟨#[]⟩]] W fun e W' => e = .returned (.tuple #[.agg #[.int .i64 4, .int .i64 3, .string ⟨#[]⟩], .bool true]) ∧ Sep w (Rs.set i (heapR h insH)) W' := by
  have := instance_ok S i hi clsH_fit (by omega) r2F (HeapM.name_le clsH r2F) clsH_class
  have e : clsH.add (instO (clsH.name r2F) (HeapM.name_le clsH r2F) r2F) = insH := by
    unfold insH instO
    congr 1
  rw [e] at this
  exact this
theorem kf_set (S : Sep w Rs W) (i : Nat) (hi : Rs[i]? = some (heapR h H)) (v x : V) (s : ByteArray) (hs : s.size ≤ maxLen) (ho : H.opens v = true) (b : Bool) (hb : H.canPut v (keyS s hs) = b) (H' : HeapM) (e : H.put v (keyS s hs) x = H') :
    Calls Try.prog 20 #[.pointer (some ⟨h, 0, none⟩), .agg #[.int .i64 v.kind, .int .i64 v.n, .string v.s], .string s, .agg #[.int .i64 x.kind, .int .i64 x.n, .string x.s]] W fun e W' => e = .returned (if b = true then excZ else excN memError) ∧ Sep w (Rs.set i (heapR h H')) W' := by
  have := set_ok S i hi v x s hs ho
  rw [hb, e] at this
  exact this
theorem kf_size (S : Sep w Rs W) (i : Nat) (hi : Rs[i]? = some (heapR h H)) (v : V) (k : Int) (hk : ((H.pairs v).length : Int) = k) :
    Calls Try.prog 30 #[.pointer (some ⟨h, 0, none⟩), .agg #[.int .i64 v.kind, .int .i64 v.n, .string v.s]] W fun e W' => e = .returned (.int .i64 k) ∧ Sep w Rs W' :=
  (S.size i hi v).mono fun e W' ⟨e1, e2, _⟩ => ⟨by rw [e1, hk], e2⟩
def numV (n : Int) (hn : okI n) : V := ⟨2, n, ⟨#[]⟩, by decide, hn, by decide⟩
/-- What the two bytes of a name are. -/
theorem byte_lo (k : Nat) (hk : k < 4096) : IntKind.u8.wrap (k : Int) = ((UInt8.ofNat (k % 256)).toNat : Int) ∧ IntKind.u8.wrap (IntKind.i64.wrap ((k : Int) / 256)) = ((UInt8.ofNat (k / 256)).toNat : Int) := by
  have h1 : (UInt8.ofNat (k % 256)).toNat = k % 256 := by simp
  have h2 : (UInt8.ofNat (k / 256)).toNat = k / 256 := by simp; omega
  have h3 : IntKind.i64.wrap ((k : Int) / 256) = ((k / 256 : Nat) : Int) := by rw [IntWalk.i64_in _ (by omega)]; omega
  rw [h1, h2, h3]
  constructor
  · show ((k : Int) % 256) = _
    omega
  · show (((k / 256 : Nat) : Int) % 256) = _
    omega
theorem name_ok (W : World) (q k : Nat) (c : Nat) (kb kc : Int) (hb : kb = ((UInt8.ofNat (k % 256)).toNat : Int)) (hc : kc = ((UInt8.ofNat (k / 256)).toNat : Int)) (z0 : W.cell? ⟨q, 0, none⟩ = some (.int .u8 kb)) (z1 : W.cell? ⟨q, 1, none⟩ = some (.int .u8 kc)) :
    (convert 56 9 (.slice (some ⟨q, 0, none⟩) 2 c)).run Try.prog W = .ok (.string (twoS k)) W := by
  subst hb hc
  have := run_convert_bytes_back (P := Try.prog) W 56 9 5 ⟨q, 0, none⟩ c [UInt8.ofNat (k % 256), UInt8.ofNat (k / 256)] Try.underlying56 Try.underlying5 Try.underlying9 (fun j hj => by
    match j, hj with
    | 0, _ => exact z0
    | 1, _ => exact z1)
  exact this
end
set_option maxRecDepth 100000 in
set_option maxHeartbeats 12800000 in
theorem walk_class (w : World) (wh : Int) :
    Calls Try.prog 5 #[.bool true, .int .i64 wh] w fun e W' => e = .returned (.bool true) ∧ Below w.heap.size w W' := by
  have S := Sep.start (Below.refl w.heap.size w)
  have M0 := Lib.hid ((shown_ok w).mono fun e W1 (hh : _ ∧ _) => (⟨hh.1, S.later hh.2⟩ : _ ∧ Sep w ([]) W1))
  clear S
  have EZ : ∀ W, (binOp .neq 45 excZ excZ).run Try.prog W = .ok (.bool false) W := fun W => by go_simp
  have EY : ∀ W, (binOp .eql 45 excZ excZ).run Try.prog W = .ok (.bool true) W := fun W => by go_simp
  have EM : ∀ W, (binOp .eql 45 (excN memError) (excN memError)).run Try.prog W = .ok (.bool true) W := fun W => by go_simp
  go_enter Try.func5, Try.ntmps5
  go_wp2_with fail
  refine M0.out.mono ?_
  rintro e w1 ⟨rfl, S⟩
  clear M0
  have M := Lib.hid (S.new)
  clear S
  go_wp2_with fail
  refine M.out.mono ?_
  rintro e w2 ⟨h, rfl, S, -⟩
  clear M
  replace S : Sep w (heapR h ⟨[], 0⟩ :: []) _ := S
  have M := Lib.hid (kf_make S 0 rfl)
  clear S
  go_wp2_with fail
  refine M.out.mono ?_
  rintro e w3 ⟨rfl, S⟩
  clear M
  replace S : Sep w (heapR h dictH :: []) _ := S
  have M := Lib.hid (kf_class S 0 rfl)
  clear S
  go_wp2_with fail
  refine M.out.mono ?_
  rintro e w4 ⟨rfl, S⟩
  clear M
  replace S : Sep w (heapR h clsH :: []) _ := S
  obtain ⟨x7, hx7⟩ : ∃ gx_, (w4.heap.size) = gx_ := ⟨_, rfl⟩
  replace S := ((S.alloc (.cells #[.int .i64 4, .int .i64 2, .string ⟨#[]⟩] 33)).alloc (.cells #[.string ⟨#[]⟩, .int .i64 0, .int .i64 0, .string ⟨#[]⟩, .bool false] 45))
  simp only [World.size_alloc, hx7] at S
  replace S : Sep w (boxR (x7 + 1) (.cells #[.string ⟨#[]⟩, .int .i64 0, .int .i64 0, .string ⟨#[]⟩, .bool false] 45) :: boxR x7 (.cells #[.int .i64 4, .int .i64 2, .string ⟨#[]⟩] 33) :: heapR h clsH :: []) _ := S
  have d0 := cellAt (S.box (b := x7 + 1) 0 rfl) 0 (v := .string ⟨#[]⟩) rfl
  have d1 := cellAt (S.box (b := x7 + 1) 0 rfl) 1 (v := .int .i64 0) rfl
  have d2 := cellAt (S.box (b := x7 + 1) 0 rfl) 2 (v := .int .i64 0) rfl
  have d3 := cellAt (S.box (b := x7 + 1) 0 rfl) 3 (v := .string ⟨#[]⟩) rfl
  have d4 := cellAt (S.box (b := x7 + 1) 0 rfl) 4 (v := .bool false) rfl
  have S9 : Hid (Sep w (boxR (x7 + 1) (.cells #[.string ⟨#[]⟩, .int .i64 0, .int .i64 0, .string ⟨#[]⟩, .bool false] 45) :: boxR x7 (.cells #[.int .i64 4, .int .i64 2, .string ⟨#[]⟩] 33) :: heapR h clsH :: []) _) := Lib.hid S
  clear S
  go_wp2
  try simp only [hx7]
  clear hx7
  go_loopw [9] (fun kv wr => ∃ k : Nat, ∃ H : HeapM, k ≤ 4096 ∧ kv = .int .i64 k ∧ FullAt r2F k H ∧ Sep w (boxR (x7 + 1) (.cells #[.string ⟨#[]⟩, .int .i64 0, .int .i64 0, .string ⟨#[]⟩, .bool false] 45) :: boxR x7 (.cells #[.int .i64 4, .int .i64 2, .string ⟨#[]⟩] 33) :: heapR h H :: []) wr) (fun kv _ => 4096 - (intOf kv).toNat)
  case atStart => exact ⟨0, _, by omega, rfl, clsH_full, S9.out⟩
  case round =>
    clear d0 d1 d2 d3 d4
    clear S9
    obtain ⟨k, H, hk, rfl, F, S⟩ := hrel
    have FF := Lib.hid F
    clear F
    by_cases hkk : k < 4096
    · have hlt : (k : Int) < 4096 := by omega
      have FN := Lib.hid (FF.out.next hkk (numV 1 (by decide)))
      obtain ⟨H2, hH2⟩ : ∃ H2, H.put r2F (twoK k) (numV 1 (by decide)) = H2 := ⟨_, rfl⟩
      rw [hH2] at FN
      have HH := Lib.hid hH2
      have HK := Lib.hid (And.intro hk hkk)
      obtain ⟨kb, hkb⟩ : ∃ x, x = ((UInt8.ofNat (k % 256)).toNat : Int) := ⟨_, rfl⟩
      obtain ⟨kc, hkc⟩ : ∃ x, x = ((UInt8.ofNat (k / 256)).toNat : Int) := ⟨_, rfl⟩
      have e8 := (byte_lo k hkk).1
      have e9 := (byte_lo k hkk).2
      rw [← hkb] at e8
      rw [← hkc] at e9
      have HB := Lib.hid (And.intro hkb hkc)
      clear hkb hkc hH2 hk hkk
      obtain ⟨baseA, hbaseA⟩ : ∃ base, base = boxR (x7 + 1) (.cells #[.string ⟨#[]⟩, .int .i64 0, .int .i64 0, .string ⟨#[]⟩, .bool false] 45) :: boxR x7 (.cells #[.int .i64 4, .int .i64 2, .string ⟨#[]⟩] 33) :: heapR h H :: [] := ⟨_, rfl⟩
      have HbaseA := Lib.hid hbaseA
      have KbaseA : Hid (∀ W (Q : List Res), Sep w (Q ++ baseA) W → W.cell? ⟨x7, 0, none⟩ = some (.int .i64 4) ∧ W.cell? ⟨x7, 1, none⟩ = some (.int .i64 2) ∧ W.cell? ⟨x7, 2, none⟩ = some (.string ⟨#[]⟩)) := Lib.hid fun W Q T => by
        rw [hbaseA] at T
        have i0 := T.box (b := x7) (o := .cells #[.int .i64 4, .int .i64 2, .string ⟨#[]⟩] 33) (Q.length + 1) (by rw [List.getElem?_append_right (by omega), Nat.add_sub_cancel_left]; rfl)
        exact ⟨cellAt i0 0 rfl, cellAt i0 1 rfl, cellAt i0 2 rfl⟩
      obtain ⟨baseB, hbaseB⟩ : ∃ base, base = boxR (x7 + 1) (.cells #[.string ⟨#[]⟩, .int .i64 0, .int .i64 0, .string ⟨#[]⟩, .bool false] 45) :: boxR x7 (.cells #[.int .i64 4, .int .i64 2, .string ⟨#[]⟩] 33) :: heapR h H2 :: [] := ⟨_, rfl⟩
      have HbaseB := Lib.hid hbaseB
      have KbaseB : Hid (∀ W (Q : List Res), Sep w (Q ++ baseB) W → W.cell? ⟨x7, 0, none⟩ = some (.int .i64 4) ∧ W.cell? ⟨x7, 1, none⟩ = some (.int .i64 2) ∧ W.cell? ⟨x7, 2, none⟩ = some (.string ⟨#[]⟩)) := Lib.hid fun W Q T => by
        rw [hbaseB] at T
        have i0 := T.box (b := x7) (o := .cells #[.int .i64 4, .int .i64 2, .string ⟨#[]⟩] 33) (Q.length + 1) (by rw [List.getElem?_append_right (by omega), Nat.add_sub_cancel_left]; rfl)
        exact ⟨cellAt i0 0 rfl, cellAt i0 1 rfl, cellAt i0 2 rfl⟩
      have KN : Hid (∀ W (Q : List Res), Sep w (Q ++ baseA) W → Calls Try.prog 29 #[.int .i64 1] W fun e W' => e = .returned (.agg #[.int .i64 2, .int .i64 1, .string ⟨#[]⟩]) ∧ Sep w (Q ++ baseA) W') := Lib.hid fun W Q T => by
        exact (num_ok W _).mono fun e W' ⟨e1, e2⟩ => ⟨e1, T.later e2⟩
      have KT : Hid (∀ W (Q : List Res), Sep w (Q ++ baseA) W → Calls Try.prog 20 #[.pointer (some ⟨h, 0, none⟩), .agg #[.int .i64 4, .int .i64 2, .string ⟨#[]⟩], .string (twoS k), .agg #[.int .i64 2, .int .i64 1, .string ⟨#[]⟩]] W fun e W' => e = .returned (excZ) ∧ Sep w (Q ++ baseB) W') := Lib.hid fun W Q T => by
        rw [HbaseA.out] at T
        rw [HbaseB.out]
        have hh := kf_set T (Q.length + 2) (by rw [List.getElem?_append_right (by omega), Nat.add_sub_cancel_left]; rfl) r2F (numV 1 (by decide)) (twoS k) (twoS_le k) FF.out.opens true (FF.out.can HK.out.2) H2 HH.out
        try rw [List.set_append_right _ _ (by omega), Nat.add_sub_cancel_left] at hh
        exact hh
      replace S : Sep w baseA wr := by rw [hbaseA]; exact S
      replace S := Lib.hid S
      clear hbaseA hbaseB
      go_upto_region 13 with fail
      go_cut [51] from 35 to 51 (fun s51 wx => s51 = .bool false ∧ Sep w baseB wx)
      case first =>
        have T0 : Sep w ([] ++ baseA) _ := S.out.drew
        clear S
        as_aux_lemma =>
          refine wp_region_held_drew (S := fun W => W.cell? ⟨x7, 0, none⟩ = some (.int .i64 4) ∧ W.cell? ⟨x7, 1, none⟩ = some (.int .i64 2) ∧ W.cell? ⟨x7, 2, none⟩ = some (.string ⟨#[]⟩)) (by kernel_rfl) (KbaseA.out _ [] T0) (fun hH => ?_)
          refine takeT 0 hH (hy := .inl ⟨by rfl, by (intro w hSw; try obtain ⟨u0, u1, u2⟩ := hSw); (go_simp; try rfl)⟩) (h := ?_)
          simp only [Act.put, List.setIfInBounds_toArray, List.set_cons_zero, List.set_cons_succ]
          refine takeT 1 hH (hy := .inl ⟨by rfl, by (intro w hSw; try obtain ⟨u0, u1, u2⟩ := hSw); (go_simp; try rfl)⟩) (h := ?_)
          simp only [Act.put, List.setIfInBounds_toArray, List.set_cons_zero, List.set_cons_succ]
          refine takeT 2 hH (hy := .inl ⟨by rfl, by (intro w hSw; try obtain ⟨u0, u1, u2⟩ := hSw); (go_simp; try rfl)⟩) (h := ?_)
          simp only [Act.put, List.setIfInBounds_toArray, List.set_cons_zero, List.set_cons_succ]
          refine takeT 3 hH (hy := .inl ⟨by rfl, by (intro w hSw; try obtain ⟨u0, u1, u2⟩ := hSw); (go_simp; try rfl)⟩) (h := ?_)
          simp only [Act.put, List.setIfInBounds_toArray, List.set_cons_zero, List.set_cons_succ]
          refine takeT 4 hH (hy := .inl ⟨by rfl, by (intro w hSw; try obtain ⟨u0, u1, u2⟩ := hSw); (go_simp; try rfl)⟩) (h := ?_)
          simp only [Act.put, List.setIfInBounds_toArray, List.set_cons_zero, List.set_cons_succ]
          refine takeT 5 hH (hy := .inl ⟨by rfl, by (intro w hSw; try obtain ⟨u0, u1, u2⟩ := hSw); (go_simp; try rfl)⟩) (h := ?_)
          simp only [Act.put, List.setIfInBounds_toArray, List.set_cons_zero, List.set_cons_succ]
          refine takeT 6 hH (hy := .inl ⟨by rfl, by (intro w hSw; try obtain ⟨u0, u1, u2⟩ := hSw); (go_simp; try rfl)⟩) (h := ?_)
          simp only [Act.put, List.setIfInBounds_toArray, List.set_cons_zero, List.set_cons_succ]
          refine takeT 11 hH (hy := .inl ⟨by rfl, by (intro w hSw; try obtain ⟨u0, u1, u2⟩ := hSw); (go_simp; try rfl)⟩) (h := ?_)
          simp only [Act.put, List.setIfInBounds_toArray, List.set_cons_zero, List.set_cons_succ]
          refine readyT [7, 9] ?_
          refine consT (fun K hK => ?_) (consT (fun K hK => ?_) AllReadyH.nil)
          · go_simp
            have T1 : Sep w ([boxR _ (.cells #[.int .u8 kb, .int .u8 kc] 5)] ++ baseA) _ := Sep.alloc T0 (.cells #[.int .u8 kb, .int .u8 kc] 5)
            try simp only [size_drew, World.size_alloc] at T1
            clear hH
            refine hK.out _ _ (KbaseA.out _ [_] T1) (fun hH => ?_)
            clear hK K
            refine readyT [8, 9] ?_
            refine consT (fun K hK => ?_) (consT (fun K hK => ?_) AllReadyH.nil)
            · have hz := T1.box 0 rfl
              have z0 := cellAt hz 0 (v := .int .u8 kb) rfl
              have z1 := cellAt hz 1 (v := .int .u8 kc) rfl
              have KC := name_ok _ _ k 2 kb kc HB.out.1 HB.out.2 z0 z1
              try simp only [World.alloc_drew] at KC
              go_simp
              clear hz z0 z1 KC
              clear hH
              refine hK.out _ _ (KbaseA.out _ [_] T1) (fun hH => ?_)
              clear hK K
              refine readyT [9] ?_
              refine consT (fun K hK => ?_) AllReadyH.nil
              go_simp
              go_wp2_with (go_at_call 29; refine (KN.out _ [_] T1).mono ?_; rintro e w3 ⟨rfl, T3⟩)
              clear hH
              refine hK.out _ _ (KbaseA.out _ [_] T3) (fun hH => ?_)
              clear hK K
              refine readyT [10] ?_
              refine consT (fun K hK => ?_) AllReadyH.nil
              go_simp
              go_wp2_with (go_at_call 20; refine (KT.out _ [_] T3).mono ?_; rintro e w4 ⟨rfl, T4⟩)
              clear hH
              refine hK.out _ _ (KbaseB.out _ [_] T4) (fun hH => ?_)
              clear hK K
              refine takeT 12 hH (hy := .inl ⟨by rfl, by (intro w hSw; try obtain ⟨u0, u1, u2⟩ := hSw); (go_simp; try rfl)⟩) (h := ?_)
              simp only [Act.put, List.setIfInBounds_toArray, List.set_cons_zero, List.set_cons_succ]
              refine wpAnyH_done (by kernel_rfl) ?_ _
              as_aux_lemma =>
                go_wp2_with fail
                go_meet
                exact ⟨rfl, Sep.tail T4⟩
            · go_simp
              go_wp2_with (go_at_call 29; refine (KN.out _ [_] T1).mono ?_; rintro e w5 ⟨rfl, T5⟩)
              clear hH
              refine hK.out _ _ (KbaseA.out _ [_] T5) (fun hH => ?_)
              clear hK K
              refine readyT [8] ?_
              refine consT (fun K hK => ?_) AllReadyH.nil
              have hz := T5.box 0 rfl
              have z0 := cellAt hz 0 (v := .int .u8 kb) rfl
              have z1 := cellAt hz 1 (v := .int .u8 kc) rfl
              have KC := name_ok _ _ k 2 kb kc HB.out.1 HB.out.2 z0 z1
              try simp only [World.alloc_drew] at KC
              go_simp
              clear hz z0 z1 KC
              clear hH
              refine hK.out _ _ (KbaseA.out _ [_] T5) (fun hH => ?_)
              clear hK K
              refine readyT [10] ?_
              refine consT (fun K hK => ?_) AllReadyH.nil
              go_simp
              go_wp2_with (go_at_call 20; refine (KT.out _ [_] T5).mono ?_; rintro e w7 ⟨rfl, T7⟩)
              clear hH
              refine hK.out _ _ (KbaseB.out _ [_] T7) (fun hH => ?_)
              clear hK K
              refine takeT 12 hH (hy := .inl ⟨by rfl, by (intro w hSw; try obtain ⟨u0, u1, u2⟩ := hSw); (go_simp; try rfl)⟩) (h := ?_)
              simp only [Act.put, List.setIfInBounds_toArray, List.set_cons_zero, List.set_cons_succ]
              refine wpAnyH_done (by kernel_rfl) ?_ _
              as_aux_lemma =>
                go_wp2_with fail
                go_meet
                exact ⟨rfl, Sep.tail T7⟩
          · go_simp
            go_wp2_with (go_at_call 29; refine (KN.out _ [] T0).mono ?_; rintro e w8 ⟨rfl, T8⟩)
            clear hH
            refine hK.out _ _ (KbaseA.out _ [] T8) (fun hH => ?_)
            clear hK K
            refine readyT [7] ?_
            refine consT (fun K hK => ?_) AllReadyH.nil
            go_simp
            have T9 : Sep w ([boxR _ (.cells #[.int .u8 kb, .int .u8 kc] 5)] ++ baseA) _ := Sep.alloc T8 (.cells #[.int .u8 kb, .int .u8 kc] 5)
            try simp only [size_drew, World.size_alloc] at T9
            clear hH
            refine hK.out _ _ (KbaseA.out _ [_] T9) (fun hH => ?_)
            clear hK K
            refine readyT [8] ?_
            refine consT (fun K hK => ?_) AllReadyH.nil
            have hz := T9.box 0 rfl
            have z0 := cellAt hz 0 (v := .int .u8 kb) rfl
            have z1 := cellAt hz 1 (v := .int .u8 kc) rfl
            have KC := name_ok _ _ k 2 kb kc HB.out.1 HB.out.2 z0 z1
            try simp only [World.alloc_drew] at KC
            go_simp
            clear hz z0 z1 KC
            clear hH
            refine hK.out _ _ (KbaseA.out _ [_] T9) (fun hH => ?_)
            clear hK K
            refine readyT [10] ?_
            refine consT (fun K hK => ?_) AllReadyH.nil
            go_simp
            go_wp2_with (go_at_call 20; refine (KT.out _ [_] T9).mono ?_; rintro e w11 ⟨rfl, T11⟩)
            clear hH
            refine hK.out _ _ (KbaseB.out _ [_] T11) (fun hH => ?_)
            clear hK K
            refine takeT 12 hH (hy := .inl ⟨by rfl, by (intro w hSw; try obtain ⟨u0, u1, u2⟩ := hSw); (go_simp; try rfl)⟩) (h := ?_)
            simp only [Act.put, List.setIfInBounds_toArray, List.set_cons_zero, List.set_cons_succ]
            refine wpAnyH_done (by kernel_rfl) ?_ _
            as_aux_lemma =>
              go_wp2_with fail
              go_meet
              exact ⟨rfl, Sep.tail T11⟩
      case rest =>
        obtain ⟨rfl, S⟩ := hcut
        rw [HbaseB.out] at S
        have S9 : Hid (Sep w (boxR (x7 + 1) (.cells #[.string ⟨#[]⟩, .int .i64 0, .int .i64 0, .string ⟨#[]⟩, .bool false] 45) :: boxR x7 (.cells #[.int .i64 4, .int .i64 2, .string ⟨#[]⟩] 33) :: heapR h H2 :: []) _) := Lib.hid S
        clear S KN KT KbaseA KbaseB HbaseA HbaseB e8 e9
        have hkk := HK.out.2
        go_wp2
        exact ⟨⟨k + 1, H2, by omega, by go_num, FN.out, S9.out⟩, by simp [intOf]; omega⟩
    · obtain rfl : k = 4096 := by omega
      have hlt : (((4096 : Nat) : Int) < 4096) = False := by simp
      clear hkk hk
      have hpk : pickN 4096 wh < 4096 := Nat.mod_lt _ (by omega)
      have hnum : (bits .and .i64 wh 65535).tmod 4096 = (pickN 4096 wh : Int) := pick_num 4096 wh
      obtain ⟨pk, hpkk⟩ : ∃ gx_, (pickN 4096 wh) = gx_ := ⟨_, rfl⟩
      rw [hpkk] at hpk hnum
      have FU := Lib.hid (FF.out.full (numV 2 (by decide)) (numV 3 (by decide)))
      have FV := Lib.hid (FU.out.2.2 pk hpk)
      obtain ⟨H3, hH3⟩ : ∃ H3, H.put r2F (twoK pk) (numV 3 (by decide)) = H3 := ⟨_, rfl⟩
      rw [hH3] at FV
      have HH := Lib.hid hH3
      clear hH3 hpkk
      obtain ⟨baseA, hbaseA⟩ : ∃ base, base = boxR (x7 + 1) (.cells #[.string ⟨#[]⟩, .int .i64 0, .int .i64 0, .string ⟨#[]⟩, .bool false] 45) :: boxR x7 (.cells #[.int .i64 4, .int .i64 2, .string ⟨#[]⟩] 33) :: heapR h H :: [] := ⟨_, rfl⟩
      have HbaseA := Lib.hid hbaseA
      have KbaseA : Hid (∀ W (Q : List Res), Sep w (Q ++ baseA) W → W.cell? ⟨x7, 0, none⟩ = some (.int .i64 4) ∧ W.cell? ⟨x7, 1, none⟩ = some (.int .i64 2) ∧ W.cell? ⟨x7, 2, none⟩ = some (.string ⟨#[]⟩)) := Lib.hid fun W Q T => by
        rw [hbaseA] at T
        have i0 := T.box (b := x7) (o := .cells #[.int .i64 4, .int .i64 2, .string ⟨#[]⟩] 33) (Q.length + 1) (by rw [List.getElem?_append_right (by omega), Nat.add_sub_cancel_left]; rfl)
        exact ⟨cellAt i0 0 rfl, cellAt i0 1 rfl, cellAt i0 2 rfl⟩
      have KN : Hid (∀ W (Q : List Res), Sep w (Q ++ baseA) W → Calls Try.prog 29 #[.int .i64 2] W fun e W' => e = .returned (.agg #[.int .i64 2, .int .i64 2, .string ⟨#[]⟩]) ∧ Sep w (Q ++ baseA) W') := Lib.hid fun W Q T => by
        exact (num_ok W _).mono fun e W' ⟨e1, e2⟩ => ⟨e1, T.later e2⟩
      have KT : Hid (∀ W (Q : List Res), Sep w (Q ++ baseA) W → Calls Try.prog 20 #[.pointer (some ⟨h, 0, none⟩), .agg #[.int .i64 4, .int .i64 2, .string ⟨#[]⟩], .string ⟨#[120, 121, 122]⟩, .agg #[.int .i64 2, .int .i64 2, .string ⟨#[]⟩]] W fun e W' => e = .returned (excN memError) ∧ Sep w (Q ++ baseA) W') := Lib.hid fun W Q T => by
        rw [HbaseA.out] at T
        rw [HbaseA.out]
        have hh := kf_set T (Q.length + 2) (by rw [List.getElem?_append_right (by omega), Nat.add_sub_cancel_left]; rfl) r2F (numV 2 (by decide)) xyzS xyzS_le FF.out.opens false FU.out.1 H FU.out.2.1
        try rw [List.set_append_right _ _ (by omega), Nat.add_sub_cancel_left] at hh
        exact hh
      replace S : Sep w baseA wr := by rw [hbaseA]; exact S
      replace S := Lib.hid S
      clear hbaseA
      go_upto_region 16 with fail
      go_cut [11] from 52 (fun s11 wx => ∃ qx, s11 = .pointer (some ⟨qx, 0, none⟩) ∧ Sep w (boxR qx (.cells #[.string ⟨#[77, 101, 109, 111, 114, 121, 69, 114, 114, 111, 114]⟩, .int .i64 0, .int .i64 0, .string ⟨#[]⟩, .bool false] 45) :: baseA) wx)
      case first =>
        have T0 : Sep w ([] ++ baseA) _ := S.out.drew
        clear S
        as_aux_lemma =>
          refine wp_region_held_drew (S := fun W => W.cell? ⟨x7, 0, none⟩ = some (.int .i64 4) ∧ W.cell? ⟨x7, 1, none⟩ = some (.int .i64 2) ∧ W.cell? ⟨x7, 2, none⟩ = some (.string ⟨#[]⟩)) (by kernel_rfl) (KbaseA.out _ [] T0) (fun hH => ?_)
          refine takeT 0 hH (hy := .inl ⟨by rfl, by (intro w hSw; try obtain ⟨u0, u1, u2⟩ := hSw); (go_simp; try rfl)⟩) (h := ?_)
          simp only [Act.put, List.setIfInBounds_toArray, List.set_cons_zero, List.set_cons_succ]
          refine takeT 1 hH (hy := .inl ⟨by rfl, by (intro w hSw; try obtain ⟨u0, u1, u2⟩ := hSw); (go_simp; try rfl)⟩) (h := ?_)
          simp only [Act.put, List.setIfInBounds_toArray, List.set_cons_zero, List.set_cons_succ]
          refine readyT [2, 4] ?_
          refine consT (fun K hK => ?_) (consT (fun K hK => ?_) AllReadyH.nil)
          · go_simp
            go_wp2_with (go_at_call 29; refine (KN.out _ [] T0).mono ?_; rintro e w1 ⟨rfl, T1⟩)
            clear hH
            refine hK.out _ _ (KbaseA.out _ [] T1) (fun hH => ?_)
            clear hK K
            refine readyT [3, 4] ?_
            refine consT (fun K hK => ?_) (consT (fun K hK => ?_) AllReadyH.nil)
            · go_simp
              go_wp2_with (go_at_call 20; refine (KT.out _ [] T1).mono ?_; rintro e w2 ⟨rfl, T2⟩)
              clear hH
              refine hK.out _ _ (KbaseA.out _ [] T2) (fun hH => ?_)
              clear hK K
              refine readyT [4] ?_
              refine consT (fun K hK => ?_) AllReadyH.nil
              go_simp
              have T3 : Sep w ([boxR _ (.cells #[.string ⟨#[]⟩, .int .i64 0, .int .i64 0, .string ⟨#[]⟩, .bool false] 45)] ++ baseA) _ := Sep.alloc T2 (.cells #[.string ⟨#[]⟩, .int .i64 0, .int .i64 0, .string ⟨#[]⟩, .bool false] 45)
              try simp only [size_drew, World.size_alloc] at T3
              clear hH
              refine hK.out _ _ (KbaseA.out _ [_] T3) (fun hH => ?_)
              clear hK K
              refine readyT [5] ?_
              refine consT (fun K hK => ?_) AllReadyH.nil
              have hz := T3.box 0 rfl
              have z0 := cellAt hz 0 (v := .string ⟨#[]⟩) rfl
              have z1 := cellAt hz 1 (v := .int .i64 0) rfl
              have z2 := cellAt hz 2 (v := .int .i64 0) rfl
              have z3 := cellAt hz 3 (v := .string ⟨#[]⟩) rfl
              have z4 := cellAt hz 4 (v := .bool false) rfl
              have z5 := frozenAt hz 0
              have z6 := frozenAt hz 1
              have z7 := frozenAt hz 2
              have z8 := frozenAt hz 3
              have z9 := frozenAt hz 4
              go_simp
              clear hz z0 z1 z2 z3 z4 z5 z6 z7 z8 z9
              clear hH
              first | (have T4 : Sep w ([boxR _ (.cells #[.string ⟨#[77, 101, 109, 111, 114, 121, 69, 114, 114, 111, 114]⟩, .int .i64 0, .int .i64 0, .string ⟨#[]⟩, .bool false] 45)] ++ baseA) _ := (Sep.alloc T2 (.cells #[.string ⟨#[77, 101, 109, 111, 114, 121, 69, 114, 114, 111, 114]⟩, .int .i64 0, .int .i64 0, .string ⟨#[]⟩, .bool false] 45)); (try simp only [size_drew, World.size_alloc] at T4); refine hK.out _ _ (KbaseA.out _ [_] T4) (fun hH => ?_)) | (have T4 : Sep w ([boxR _ (.cells #[.string ⟨#[77, 101, 109, 111, 114, 121, 69, 114, 114, 111, 114]⟩, .int .i64 0, .int .i64 0, .string ⟨#[]⟩, .bool false] 45)] ++ baseA) _ := (Sep.setBox (cs := #[.string ⟨#[77, 101, 109, 111, 114, 121, 69, 114, 114, 111, 114]⟩, .int .i64 0, .int .i64 0, .string ⟨#[]⟩, .bool false]) (t := 45) (Sep.setBox (cs := #[.string ⟨#[77, 101, 109, 111, 114, 121, 69, 114, 114, 111, 114]⟩, .int .i64 0, .int .i64 0, .string ⟨#[]⟩, .bool false]) (t := 45) (Sep.setBox (cs := #[.string ⟨#[77, 101, 109, 111, 114, 121, 69, 114, 114, 111, 114]⟩, .int .i64 0, .int .i64 0, .string ⟨#[]⟩, .bool false]) (t := 45) (Sep.setBox (cs := #[.string ⟨#[77, 101, 109, 111, 114, 121, 69, 114, 114, 111, 114]⟩, .int .i64 0, .int .i64 0, .string ⟨#[]⟩, .bool false]) (t := 45) (Sep.setBox (cs := #[.string ⟨#[]⟩, .int .i64 0, .int .i64 0, .string ⟨#[]⟩, .bool false]) (t := 45) T3 0 rfl 0 (.string ⟨#[77, 101, 109, 111, 114, 121, 69, 114, 114, 111, 114]⟩)) 0 rfl 1 (.int .i64 0)) 0 rfl 2 (.int .i64 0)) 0 rfl 3 (.string ⟨#[]⟩)) 0 rfl 4 (.bool false)); (try simp only [size_drew, World.size_alloc] at T4); refine hK.out _ _ (KbaseA.out _ [_] T4) (fun hH => ?_))
              clear hK K
              refine wpAnyH_done (by kernel_rfl) ?_ _
              as_aux_lemma =>
                go_wp2_with fail
                go_meet
                exact ⟨_, rfl, T4⟩
            · go_simp
              have T5 : Sep w ([boxR _ (.cells #[.string ⟨#[]⟩, .int .i64 0, .int .i64 0, .string ⟨#[]⟩, .bool false] 45)] ++ baseA) _ := Sep.alloc T1 (.cells #[.string ⟨#[]⟩, .int .i64 0, .int .i64 0, .string ⟨#[]⟩, .bool false] 45)
              try simp only [size_drew, World.size_alloc] at T5
              clear hH
              refine hK.out _ _ (KbaseA.out _ [_] T5) (fun hH => ?_)
              clear hK K
              refine readyT [3] ?_
              refine consT (fun K hK => ?_) AllReadyH.nil
              go_simp
              go_wp2_with (go_at_call 20; refine (KT.out _ [_] T5).mono ?_; rintro e w6 ⟨rfl, T6⟩)
              clear hH
              refine hK.out _ _ (KbaseA.out _ [_] T6) (fun hH => ?_)
              clear hK K
              refine readyT [5] ?_
              refine consT (fun K hK => ?_) AllReadyH.nil
              have hz := T6.box 0 rfl
              have z0 := cellAt hz 0 (v := .string ⟨#[]⟩) rfl
              have z1 := cellAt hz 1 (v := .int .i64 0) rfl
              have z2 := cellAt hz 2 (v := .int .i64 0) rfl
              have z3 := cellAt hz 3 (v := .string ⟨#[]⟩) rfl
              have z4 := cellAt hz 4 (v := .bool false) rfl
              have z5 := frozenAt hz 0
              have z6 := frozenAt hz 1
              have z7 := frozenAt hz 2
              have z8 := frozenAt hz 3
              have z9 := frozenAt hz 4
              go_simp
              clear hz z0 z1 z2 z3 z4 z5 z6 z7 z8 z9
              clear hH
              have T7 : Sep w ([boxR _ (.cells #[.string ⟨#[77, 101, 109, 111, 114, 121, 69, 114, 114, 111, 114]⟩, .int .i64 0, .int .i64 0, .string ⟨#[]⟩, .bool false] 45)] ++ baseA) _ := (Sep.setBox (cs := #[.string ⟨#[77, 101, 109, 111, 114, 121, 69, 114, 114, 111, 114]⟩, .int .i64 0, .int .i64 0, .string ⟨#[]⟩, .bool false]) (t := 45) (Sep.setBox (cs := #[.string ⟨#[77, 101, 109, 111, 114, 121, 69, 114, 114, 111, 114]⟩, .int .i64 0, .int .i64 0, .string ⟨#[]⟩, .bool false]) (t := 45) (Sep.setBox (cs := #[.string ⟨#[77, 101, 109, 111, 114, 121, 69, 114, 114, 111, 114]⟩, .int .i64 0, .int .i64 0, .string ⟨#[]⟩, .bool false]) (t := 45) (Sep.setBox (cs := #[.string ⟨#[77, 101, 109, 111, 114, 121, 69, 114, 114, 111, 114]⟩, .int .i64 0, .int .i64 0, .string ⟨#[]⟩, .bool false]) (t := 45) (Sep.setBox (cs := #[.string ⟨#[]⟩, .int .i64 0, .int .i64 0, .string ⟨#[]⟩, .bool false]) (t := 45) T6 0 rfl 0 (.string ⟨#[77, 101, 109, 111, 114, 121, 69, 114, 114, 111, 114]⟩)) 0 rfl 1 (.int .i64 0)) 0 rfl 2 (.int .i64 0)) 0 rfl 3 (.string ⟨#[]⟩)) 0 rfl 4 (.bool false))
              try simp only [size_drew, World.size_alloc] at T7
              refine hK.out _ _ (KbaseA.out _ [_] T7) (fun hH => ?_)
              clear hK K
              refine wpAnyH_done (by kernel_rfl) ?_ _
              as_aux_lemma =>
                go_wp2_with fail
                go_meet
                exact ⟨_, rfl, T7⟩
          · go_simp
            have T8 : Sep w ([boxR _ (.cells #[.string ⟨#[]⟩, .int .i64 0, .int .i64 0, .string ⟨#[]⟩, .bool false] 45)] ++ baseA) _ := Sep.alloc T0 (.cells #[.string ⟨#[]⟩, .int .i64 0, .int .i64 0, .string ⟨#[]⟩, .bool false] 45)
            try simp only [size_drew, World.size_alloc] at T8
            clear hH
            refine hK.out _ _ (KbaseA.out _ [_] T8) (fun hH => ?_)
            clear hK K
            refine readyT [2] ?_
            refine consT (fun K hK => ?_) AllReadyH.nil
            go_simp
            go_wp2_with (go_at_call 29; refine (KN.out _ [_] T8).mono ?_; rintro e w9 ⟨rfl, T9⟩)
            clear hH
            refine hK.out _ _ (KbaseA.out _ [_] T9) (fun hH => ?_)
            clear hK K
            refine readyT [3] ?_
            refine consT (fun K hK => ?_) AllReadyH.nil
            go_simp
            go_wp2_with (go_at_call 20; refine (KT.out _ [_] T9).mono ?_; rintro e w10 ⟨rfl, T10⟩)
            clear hH
            refine hK.out _ _ (KbaseA.out _ [_] T10) (fun hH => ?_)
            clear hK K
            refine readyT [5] ?_
            refine consT (fun K hK => ?_) AllReadyH.nil
            have hz := T10.box 0 rfl
            have z0 := cellAt hz 0 (v := .string ⟨#[]⟩) rfl
            have z1 := cellAt hz 1 (v := .int .i64 0) rfl
            have z2 := cellAt hz 2 (v := .int .i64 0) rfl
            have z3 := cellAt hz 3 (v := .string ⟨#[]⟩) rfl
            have z4 := cellAt hz 4 (v := .bool false) rfl
            have z5 := frozenAt hz 0
            have z6 := frozenAt hz 1
            have z7 := frozenAt hz 2
            have z8 := frozenAt hz 3
            have z9 := frozenAt hz 4
            go_simp
            clear hz z0 z1 z2 z3 z4 z5 z6 z7 z8 z9
            clear hH
            have T11 : Sep w ([boxR _ (.cells #[.string ⟨#[77, 101, 109, 111, 114, 121, 69, 114, 114, 111, 114]⟩, .int .i64 0, .int .i64 0, .string ⟨#[]⟩, .bool false] 45)] ++ baseA) _ := (Sep.setBox (cs := #[.string ⟨#[77, 101, 109, 111, 114, 121, 69, 114, 114, 111, 114]⟩, .int .i64 0, .int .i64 0, .string ⟨#[]⟩, .bool false]) (t := 45) (Sep.setBox (cs := #[.string ⟨#[77, 101, 109, 111, 114, 121, 69, 114, 114, 111, 114]⟩, .int .i64 0, .int .i64 0, .string ⟨#[]⟩, .bool false]) (t := 45) (Sep.setBox (cs := #[.string ⟨#[77, 101, 109, 111, 114, 121, 69, 114, 114, 111, 114]⟩, .int .i64 0, .int .i64 0, .string ⟨#[]⟩, .bool false]) (t := 45) (Sep.setBox (cs := #[.string ⟨#[77, 101, 109, 111, 114, 121, 69, 114, 114, 111, 114]⟩, .int .i64 0, .int .i64 0, .string ⟨#[]⟩, .bool false]) (t := 45) (Sep.setBox (cs := #[.string ⟨#[]⟩, .int .i64 0, .int .i64 0, .string ⟨#[]⟩, .bool false]) (t := 45) T10 0 rfl 0 (.string ⟨#[77, 101, 109, 111, 114, 121, 69, 114, 114, 111, 114]⟩)) 0 rfl 1 (.int .i64 0)) 0 rfl 2 (.int .i64 0)) 0 rfl 3 (.string ⟨#[]⟩)) 0 rfl 4 (.bool false))
            try simp only [size_drew, World.size_alloc] at T11
            refine hK.out _ _ (KbaseA.out _ [_] T11) (fun hH => ?_)
            clear hK K
            refine wpAnyH_done (by kernel_rfl) ?_ _
            as_aux_lemma =>
              go_wp2_with fail
              go_meet
              exact ⟨_, rfl, T11⟩
      case rest =>
        obtain ⟨x11, rfl, S⟩ := hcut
        rw [HbaseA.out] at S
        clear KN KT KbaseA HbaseA
        replace S : Sep w (boxR x11 (.cells #[.string ⟨#[77, 101, 109, 111, 114, 121, 69, 114, 114, 111, 114]⟩, .int .i64 0, .int .i64 0, .string ⟨#[]⟩, .bool false] 45) :: boxR (x7 + 1) (.cells #[.string ⟨#[]⟩, .int .i64 0, .int .i64 0, .string ⟨#[]⟩, .bool false] 45) :: boxR x7 (.cells #[.int .i64 4, .int .i64 2, .string ⟨#[]⟩] 33) :: heapR h H :: []) _ := S
        obtain ⟨kb, hkb⟩ : ∃ x, x = ((UInt8.ofNat (pk % 256)).toNat : Int) := ⟨_, rfl⟩
        obtain ⟨kc, hkc⟩ : ∃ x, x = ((UInt8.ofNat (pk / 256)).toNat : Int) := ⟨_, rfl⟩
        have e8 := (byte_lo pk hpk).1
        have e9 := (byte_lo pk hpk).2
        rw [← hkb] at e8
        rw [← hkc] at e9
        have HB := Lib.hid (And.intro hkb hkc)
        clear hkb hkc hpk
        obtain ⟨baseA, hbaseA⟩ : ∃ base, base = boxR x11 (.cells #[.string ⟨#[77, 101, 109, 111, 114, 121, 69, 114, 114, 111, 114]⟩, .int .i64 0, .int .i64 0, .string ⟨#[]⟩, .bool false] 45) :: boxR (x7 + 1) (.cells #[.string ⟨#[]⟩, .int .i64 0, .int .i64 0, .string ⟨#[]⟩, .bool false] 45) :: boxR x7 (.cells #[.int .i64 4, .int .i64 2, .string ⟨#[]⟩] 33) :: heapR h H :: [] := ⟨_, rfl⟩
        have HbaseA := Lib.hid hbaseA
        have KbaseA : Hid (∀ W (Q : List Res), Sep w (Q ++ baseA) W → W.cell? ⟨x7, 0, none⟩ = some (.int .i64 4) ∧ W.cell? ⟨x7, 1, none⟩ = some (.int .i64 2) ∧ W.cell? ⟨x7, 2, none⟩ = some (.string ⟨#[]⟩)) := Lib.hid fun W Q T => by
          rw [hbaseA] at T
          have i0 := T.box (b := x7) (o := .cells #[.int .i64 4, .int .i64 2, .string ⟨#[]⟩] 33) (Q.length + 2) (by rw [List.getElem?_append_right (by omega), Nat.add_sub_cancel_left]; rfl)
          exact ⟨cellAt i0 0 rfl, cellAt i0 1 rfl, cellAt i0 2 rfl⟩
        obtain ⟨baseB, hbaseB⟩ : ∃ base, base = boxR x11 (.cells #[.string ⟨#[77, 101, 109, 111, 114, 121, 69, 114, 114, 111, 114]⟩, .int .i64 0, .int .i64 0, .string ⟨#[]⟩, .bool false] 45) :: boxR (x7 + 1) (.cells #[.string ⟨#[]⟩, .int .i64 0, .int .i64 0, .string ⟨#[]⟩, .bool false] 45) :: boxR x7 (.cells #[.int .i64 4, .int .i64 2, .string ⟨#[]⟩] 33) :: heapR h H3 :: [] := ⟨_, rfl⟩
        have HbaseB := Lib.hid hbaseB
        have KbaseB : Hid (∀ W (Q : List Res), Sep w (Q ++ baseB) W → W.cell? ⟨x7, 0, none⟩ = some (.int .i64 4) ∧ W.cell? ⟨x7, 1, none⟩ = some (.int .i64 2) ∧ W.cell? ⟨x7, 2, none⟩ = some (.string ⟨#[]⟩)) := Lib.hid fun W Q T => by
          rw [hbaseB] at T
          have i0 := T.box (b := x7) (o := .cells #[.int .i64 4, .int .i64 2, .string ⟨#[]⟩] 33) (Q.length + 2) (by rw [List.getElem?_append_right (by omega), Nat.add_sub_cancel_left]; rfl)
          exact ⟨cellAt i0 0 rfl, cellAt i0 1 rfl, cellAt i0 2 rfl⟩
        have KN : Hid (∀ W (Q : List Res), Sep w (Q ++ baseA) W → Calls Try.prog 29 #[.int .i64 3] W fun e W' => e = .returned (.agg #[.int .i64 2, .int .i64 3, .string ⟨#[]⟩]) ∧ Sep w (Q ++ baseA) W') := Lib.hid fun W Q T => by
          exact (num_ok W _).mono fun e W' ⟨e1, e2⟩ => ⟨e1, T.later e2⟩
        have KT : Hid (∀ W (Q : List Res), Sep w (Q ++ baseA) W → Calls Try.prog 20 #[.pointer (some ⟨h, 0, none⟩), .agg #[.int .i64 4, .int .i64 2, .string ⟨#[]⟩], .string (twoS pk), .agg #[.int .i64 2, .int .i64 3, .string ⟨#[]⟩]] W fun e W' => e = .returned (excZ) ∧ Sep w (Q ++ baseB) W') := Lib.hid fun W Q T => by
          rw [HbaseA.out] at T
          rw [HbaseB.out]
          have hh := kf_set T (Q.length + 3) (by rw [List.getElem?_append_right (by omega), Nat.add_sub_cancel_left]; rfl) r2F (numV 3 (by decide)) (twoS pk) (twoS_le pk) FF.out.opens true FV.out.1 H3 HH.out
          try rw [List.set_append_right _ _ (by omega), Nat.add_sub_cancel_left] at hh
          exact hh
        replace S : Sep w baseA wc := by rw [hbaseA]; exact S
        replace S := Lib.hid S
        clear hbaseA hbaseB
        go_upto_region 17 with fail
        go_cut [12] from 52 (fun s12 wx => ∃ qx, s12 = .pointer (some ⟨qx, 0, none⟩) ∧ Sep w (boxR qx (.cells #[.string ⟨#[]⟩, .int .i64 0, .int .i64 0, .string ⟨#[]⟩, .bool false] 45) :: baseB) wx)
        case first =>
          have T0 : Sep w ([] ++ baseA) _ := S.out.drew
          clear S
          as_aux_lemma =>
            refine wp_region_held_drew (S := fun W => W.cell? ⟨x7, 0, none⟩ = some (.int .i64 4) ∧ W.cell? ⟨x7, 1, none⟩ = some (.int .i64 2) ∧ W.cell? ⟨x7, 2, none⟩ = some (.string ⟨#[]⟩)) (by kernel_rfl) (KbaseA.out _ [] T0) (fun hH => ?_)
            refine takeT 0 hH (hy := .inl ⟨by rfl, by (intro w hSw; try obtain ⟨u0, u1, u2⟩ := hSw); (go_simp; try rfl)⟩) (h := ?_)
            simp only [Act.put, List.setIfInBounds_toArray, List.set_cons_zero, List.set_cons_succ]
            refine takeT 1 hH (hy := .inl ⟨by rfl, by (intro w hSw; try obtain ⟨u0, u1, u2⟩ := hSw); (go_simp; try rfl)⟩) (h := ?_)
            simp only [Act.put, List.setIfInBounds_toArray, List.set_cons_zero, List.set_cons_succ]
            refine takeT 2 hH (hy := .inl ⟨by rfl, by (intro w hSw; try obtain ⟨u0, u1, u2⟩ := hSw); (go_simp; try rfl)⟩) (h := ?_)
            simp only [Act.put, List.setIfInBounds_toArray, List.set_cons_zero, List.set_cons_succ]
            refine takeT 3 hH (hy := .inl ⟨by rfl, by (intro w hSw; try obtain ⟨u0, u1, u2⟩ := hSw); (go_simp; try rfl)⟩) (h := ?_)
            simp only [Act.put, List.setIfInBounds_toArray, List.set_cons_zero, List.set_cons_succ]
            refine takeT 4 hH (hy := .inl ⟨by rfl, by (intro w hSw; try obtain ⟨u0, u1, u2⟩ := hSw); (go_simp; try rfl)⟩) (h := ?_)
            simp only [Act.put, List.setIfInBounds_toArray, List.set_cons_zero, List.set_cons_succ]
            refine takeT 5 hH (hy := .inl ⟨by rfl, by (intro w hSw; try obtain ⟨u0, u1, u2⟩ := hSw); (go_simp; try rfl)⟩) (h := ?_)
            simp only [Act.put, List.setIfInBounds_toArray, List.set_cons_zero, List.set_cons_succ]
            refine takeT 6 hH (hy := .inl ⟨by rfl, by (intro w hSw; try obtain ⟨u0, u1, u2⟩ := hSw); (go_simp; try rfl)⟩) (h := ?_)
            simp only [Act.put, List.setIfInBounds_toArray, List.set_cons_zero, List.set_cons_succ]
            refine readyT [7, 9, 11] ?_
            refine consT (fun K hK => ?_) (consT (fun K hK => ?_) (consT (fun K hK => ?_) AllReadyH.nil))
            · go_simp
              have T1 : Sep w ([boxR _ (.cells #[.int .u8 kb, .int .u8 kc] 5)] ++ baseA) _ := Sep.alloc T0 (.cells #[.int .u8 kb, .int .u8 kc] 5)
              try simp only [size_drew, World.size_alloc] at T1
              clear hH
              refine hK.out _ _ (KbaseA.out _ [_] T1) (fun hH => ?_)
              clear hK K
              refine readyT [8, 9, 11] ?_
              refine consT (fun K hK => ?_) (consT (fun K hK => ?_) (consT (fun K hK => ?_) AllReadyH.nil))
              · have hz := T1.box 0 rfl
                have z0 := cellAt hz 0 (v := .int .u8 kb) rfl
                have z1 := cellAt hz 1 (v := .int .u8 kc) rfl
                have KC := name_ok _ _ pk 2 kb kc HB.out.1 HB.out.2 z0 z1
                try simp only [World.alloc_drew] at KC
                go_simp
                clear hz z0 z1 KC
                clear hH
                refine hK.out _ _ (KbaseA.out _ [_] T1) (fun hH => ?_)
                clear hK K
                refine readyT [9, 11] ?_
                refine consT (fun K hK => ?_) (consT (fun K hK => ?_) AllReadyH.nil)
                · go_simp
                  go_wp2_with (go_at_call 29; refine (KN.out _ [_] T1).mono ?_; rintro e w3 ⟨rfl, T3⟩)
                  clear hH
                  refine hK.out _ _ (KbaseA.out _ [_] T3) (fun hH => ?_)
                  clear hK K
                  refine readyT [10, 11] ?_
                  refine consT (fun K hK => ?_) (consT (fun K hK => ?_) AllReadyH.nil)
                  · go_simp
                    go_wp2_with (go_at_call 20; refine (KT.out _ [_] T3).mono ?_; rintro e w4 ⟨rfl, T4⟩)
                    clear hH
                    refine hK.out _ _ (KbaseB.out _ [_] T4) (fun hH => ?_)
                    clear hK K
                    refine readyT [11] ?_
                    refine consT (fun K hK => ?_) AllReadyH.nil
                    go_simp
                    have T5 : Sep w ([boxR _ (.cells #[.string ⟨#[]⟩, .int .i64 0, .int .i64 0, .string ⟨#[]⟩, .bool false] 45), boxR _ (.cells #[.int .u8 kb, .int .u8 kc] 5)] ++ baseB) _ := Sep.alloc T4 (.cells #[.string ⟨#[]⟩, .int .i64 0, .int .i64 0, .string ⟨#[]⟩, .bool false] 45)
                    try simp only [size_drew, World.size_alloc] at T5
                    clear hH
                    refine hK.out _ _ (KbaseB.out _ [_, _] T5) (fun hH => ?_)
                    clear hK K
                    refine readyT [12] ?_
                    refine consT (fun K hK => ?_) AllReadyH.nil
                    have hz := T5.box 0 rfl
                    have z0 := cellAt hz 0 (v := .string ⟨#[]⟩) rfl
                    have z1 := cellAt hz 1 (v := .int .i64 0) rfl
                    have z2 := cellAt hz 2 (v := .int .i64 0) rfl
                    have z3 := cellAt hz 3 (v := .string ⟨#[]⟩) rfl
                    have z4 := cellAt hz 4 (v := .bool false) rfl
                    have z5 := frozenAt hz 0
                    have z6 := frozenAt hz 1
                    have z7 := frozenAt hz 2
                    have z8 := frozenAt hz 3
                    have z9 := frozenAt hz 4
                    go_simp
                    clear hz z0 z1 z2 z3 z4 z5 z6 z7 z8 z9
                    clear hH
                    first | (have T6 : Sep w ([boxR _ (.cells #[.string ⟨#[]⟩, .int .i64 0, .int .i64 0, .string ⟨#[]⟩, .bool false] 45), boxR _ (.cells #[.int .u8 kb, .int .u8 kc] 5)] ++ baseB) _ := (Sep.alloc T4 (.cells #[.string ⟨#[]⟩, .int .i64 0, .int .i64 0, .string ⟨#[]⟩, .bool false] 45)); (try simp only [size_drew, World.size_alloc] at T6); refine hK.out _ _ (KbaseB.out _ [_, _] T6) (fun hH => ?_)) | (have T6 : Sep w ([boxR _ (.cells #[.string ⟨#[]⟩, .int .i64 0, .int .i64 0, .string ⟨#[]⟩, .bool false] 45), boxR _ (.cells #[.int .u8 kb, .int .u8 kc] 5)] ++ baseB) _ := (Sep.setBox (cs := #[.string ⟨#[]⟩, .int .i64 0, .int .i64 0, .string ⟨#[]⟩, .bool false]) (t := 45) (Sep.setBox (cs := #[.string ⟨#[]⟩, .int .i64 0, .int .i64 0, .string ⟨#[]⟩, .bool false]) (t := 45) (Sep.setBox (cs := #[.string ⟨#[]⟩, .int .i64 0, .int .i64 0, .string ⟨#[]⟩, .bool false]) (t := 45) (Sep.setBox (cs := #[.string ⟨#[]⟩, .int .i64 0, .int .i64 0, .string ⟨#[]⟩, .bool false]) (t := 45) (Sep.setBox (cs := #[.string ⟨#[]⟩, .int .i64 0, .int .i64 0, .string ⟨#[]⟩, .bool false]) (t := 45) T5 0 rfl 0 (.string ⟨#[]⟩)) 0 rfl 1 (.int .i64 0)) 0 rfl 2 (.int .i64 0)) 0 rfl 3 (.string ⟨#[]⟩)) 0 rfl 4 (.bool false)); (try simp only [size_drew, World.size_alloc] at T6); refine hK.out _ _ (KbaseB.out _ [_, _] T6) (fun hH => ?_))
                    clear hK K
                    refine wpAnyH_done (by kernel_rfl) ?_ _
                    as_aux_lemma =>
                      go_wp2_with fail
                      go_meet
                      exact ⟨_, rfl, Sep.one T6 0 rfl⟩
                  · go_simp
                    have T7 : Sep w ([boxR _ (.cells #[.string ⟨#[]⟩, .int .i64 0, .int .i64 0, .string ⟨#[]⟩, .bool false] 45), boxR _ (.cells #[.int .u8 kb, .int .u8 kc] 5)] ++ baseA) _ := Sep.alloc T3 (.cells #[.string ⟨#[]⟩, .int .i64 0, .int .i64 0, .string ⟨#[]⟩, .bool false] 45)
                    try simp only [size_drew, World.size_alloc] at T7
                    clear hH
                    refine hK.out _ _ (KbaseA.out _ [_, _] T7) (fun hH => ?_)
                    clear hK K
                    refine readyT [10] ?_
                    refine consT (fun K hK => ?_) AllReadyH.nil
                    go_simp
                    go_wp2_with (go_at_call 20; refine (KT.out _ [_, _] T7).mono ?_; rintro e w8 ⟨rfl, T8⟩)
                    clear hH
                    refine hK.out _ _ (KbaseB.out _ [_, _] T8) (fun hH => ?_)
                    clear hK K
                    refine readyT [12] ?_
                    refine consT (fun K hK => ?_) AllReadyH.nil
                    have hz := T8.box 0 rfl
                    have z0 := cellAt hz 0 (v := .string ⟨#[]⟩) rfl
                    have z1 := cellAt hz 1 (v := .int .i64 0) rfl
                    have z2 := cellAt hz 2 (v := .int .i64 0) rfl
                    have z3 := cellAt hz 3 (v := .string ⟨#[]⟩) rfl
                    have z4 := cellAt hz 4 (v := .bool false) rfl
                    have z5 := frozenAt hz 0
                    have z6 := frozenAt hz 1
                    have z7 := frozenAt hz 2
                    have z8 := frozenAt hz 3
                    have z9 := frozenAt hz 4
                    go_simp
                    clear hz z0 z1 z2 z3 z4 z5 z6 z7 z8 z9
                    clear hH
                    have T9 : Sep w ([boxR _ (.cells #[.string ⟨#[]⟩, .int .i64 0, .int .i64 0, .string ⟨#[]⟩, .bool false] 45), boxR _ (.cells #[.int .u8 kb, .int .u8 kc] 5)] ++ baseB) _ := (Sep.setBox (cs := #[.string ⟨#[]⟩, .int .i64 0, .int .i64 0, .string ⟨#[]⟩, .bool false]) (t := 45) (Sep.setBox (cs := #[.string ⟨#[]⟩, .int .i64 0, .int .i64 0, .string ⟨#[]⟩, .bool false]) (t := 45) (Sep.setBox (cs := #[.string ⟨#[]⟩, .int .i64 0, .int .i64 0, .string ⟨#[]⟩, .bool false]) (t := 45) (Sep.setBox (cs := #[.string ⟨#[]⟩, .int .i64 0, .int .i64 0, .string ⟨#[]⟩, .bool false]) (t := 45) (Sep.setBox (cs := #[.string ⟨#[]⟩, .int .i64 0, .int .i64 0, .string ⟨#[]⟩, .bool false]) (t := 45) T8 0 rfl 0 (.string ⟨#[]⟩)) 0 rfl 1 (.int .i64 0)) 0 rfl 2 (.int .i64 0)) 0 rfl 3 (.string ⟨#[]⟩)) 0 rfl 4 (.bool false))
                    try simp only [size_drew, World.size_alloc] at T9
                    refine hK.out _ _ (KbaseB.out _ [_, _] T9) (fun hH => ?_)
                    clear hK K
                    refine wpAnyH_done (by kernel_rfl) ?_ _
                    as_aux_lemma =>
                      go_wp2_with fail
                      go_meet
                      exact ⟨_, rfl, Sep.one T9 0 rfl⟩
                · go_simp
                  have T10 : Sep w ([boxR _ (.cells #[.string ⟨#[]⟩, .int .i64 0, .int .i64 0, .string ⟨#[]⟩, .bool false] 45), boxR _ (.cells #[.int .u8 kb, .int .u8 kc] 5)] ++ baseA) _ := Sep.alloc T1 (.cells #[.string ⟨#[]⟩, .int .i64 0, .int .i64 0, .string ⟨#[]⟩, .bool false] 45)
                  try simp only [size_drew, World.size_alloc] at T10
                  clear hH
                  refine hK.out _ _ (KbaseA.out _ [_, _] T10) (fun hH => ?_)
                  clear hK K
                  refine readyT [9] ?_
                  refine consT (fun K hK => ?_) AllReadyH.nil
                  go_simp
                  go_wp2_with (go_at_call 29; refine (KN.out _ [_, _] T10).mono ?_; rintro e w11 ⟨rfl, T11⟩)
                  clear hH
                  refine hK.out _ _ (KbaseA.out _ [_, _] T11) (fun hH => ?_)
                  clear hK K
                  refine readyT [10] ?_
                  refine consT (fun K hK => ?_) AllReadyH.nil
                  go_simp
                  go_wp2_with (go_at_call 20; refine (KT.out _ [_, _] T11).mono ?_; rintro e w12 ⟨rfl, T12⟩)
                  clear hH
                  refine hK.out _ _ (KbaseB.out _ [_, _] T12) (fun hH => ?_)
                  clear hK K
                  refine readyT [12] ?_
                  refine consT (fun K hK => ?_) AllReadyH.nil
                  have hz := T12.box 0 rfl
                  have z0 := cellAt hz 0 (v := .string ⟨#[]⟩) rfl
                  have z1 := cellAt hz 1 (v := .int .i64 0) rfl
                  have z2 := cellAt hz 2 (v := .int .i64 0) rfl
                  have z3 := cellAt hz 3 (v := .string ⟨#[]⟩) rfl
                  have z4 := cellAt hz 4 (v := .bool false) rfl
                  have z5 := frozenAt hz 0
                  have z6 := frozenAt hz 1
                  have z7 := frozenAt hz 2
                  have z8 := frozenAt hz 3
                  have z9 := frozenAt hz 4
                  go_simp
                  clear hz z0 z1 z2 z3 z4 z5 z6 z7 z8 z9
                  clear hH
                  have T13 : Sep w ([boxR _ (.cells #[.string ⟨#[]⟩, .int .i64 0, .int .i64 0, .string ⟨#[]⟩, .bool false] 45), boxR _ (.cells #[.int .u8 kb, .int .u8 kc] 5)] ++ baseB) _ := (Sep.setBox (cs := #[.string ⟨#[]⟩, .int .i64 0, .int .i64 0, .string ⟨#[]⟩, .bool false]) (t := 45) (Sep.setBox (cs := #[.string ⟨#[]⟩, .int .i64 0, .int .i64 0, .string ⟨#[]⟩, .bool false]) (t := 45) (Sep.setBox (cs := #[.string ⟨#[]⟩, .int .i64 0, .int .i64 0, .string ⟨#[]⟩, .bool false]) (t := 45) (Sep.setBox (cs := #[.string ⟨#[]⟩, .int .i64 0, .int .i64 0, .string ⟨#[]⟩, .bool false]) (t := 45) (Sep.setBox (cs := #[.string ⟨#[]⟩, .int .i64 0, .int .i64 0, .string ⟨#[]⟩, .bool false]) (t := 45) T12 0 rfl 0 (.string ⟨#[]⟩)) 0 rfl 1 (.int .i64 0)) 0 rfl 2 (.int .i64 0)) 0 rfl 3 (.string ⟨#[]⟩)) 0 rfl 4 (.bool false))
                  try simp only [size_drew, World.size_alloc] at T13
                  refine hK.out _ _ (KbaseB.out _ [_, _] T13) (fun hH => ?_)
                  clear hK K
                  refine wpAnyH_done (by kernel_rfl) ?_ _
                  as_aux_lemma =>
                    go_wp2_with fail
                    go_meet
                    exact ⟨_, rfl, Sep.one T13 0 rfl⟩
              · go_simp
                go_wp2_with (go_at_call 29; refine (KN.out _ [_] T1).mono ?_; rintro e w14 ⟨rfl, T14⟩)
                clear hH
                refine hK.out _ _ (KbaseA.out _ [_] T14) (fun hH => ?_)
                clear hK K
                refine readyT [8, 11] ?_
                refine consT (fun K hK => ?_) (consT (fun K hK => ?_) AllReadyH.nil)
                · have hz := T14.box 0 rfl
                  have z0 := cellAt hz 0 (v := .int .u8 kb) rfl
                  have z1 := cellAt hz 1 (v := .int .u8 kc) rfl
                  have KC := name_ok _ _ pk 2 kb kc HB.out.1 HB.out.2 z0 z1
                  try simp only [World.alloc_drew] at KC
                  go_simp
                  clear hz z0 z1 KC
                  clear hH
                  refine hK.out _ _ (KbaseA.out _ [_] T14) (fun hH => ?_)
                  clear hK K
                  refine readyT [10, 11] ?_
                  refine consT (fun K hK => ?_) (consT (fun K hK => ?_) AllReadyH.nil)
                  · go_simp
                    go_wp2_with (go_at_call 20; refine (KT.out _ [_] T14).mono ?_; rintro e w16 ⟨rfl, T16⟩)
                    clear hH
                    refine hK.out _ _ (KbaseB.out _ [_] T16) (fun hH => ?_)
                    clear hK K
                    refine readyT [11] ?_
                    refine consT (fun K hK => ?_) AllReadyH.nil
                    go_simp
                    have T17 : Sep w ([boxR _ (.cells #[.string ⟨#[]⟩, .int .i64 0, .int .i64 0, .string ⟨#[]⟩, .bool false] 45), boxR _ (.cells #[.int .u8 kb, .int .u8 kc] 5)] ++ baseB) _ := Sep.alloc T16 (.cells #[.string ⟨#[]⟩, .int .i64 0, .int .i64 0, .string ⟨#[]⟩, .bool false] 45)
                    try simp only [size_drew, World.size_alloc] at T17
                    clear hH
                    refine hK.out _ _ (KbaseB.out _ [_, _] T17) (fun hH => ?_)
                    clear hK K
                    refine readyT [12] ?_
                    refine consT (fun K hK => ?_) AllReadyH.nil
                    have hz := T17.box 0 rfl
                    have z0 := cellAt hz 0 (v := .string ⟨#[]⟩) rfl
                    have z1 := cellAt hz 1 (v := .int .i64 0) rfl
                    have z2 := cellAt hz 2 (v := .int .i64 0) rfl
                    have z3 := cellAt hz 3 (v := .string ⟨#[]⟩) rfl
                    have z4 := cellAt hz 4 (v := .bool false) rfl
                    have z5 := frozenAt hz 0
                    have z6 := frozenAt hz 1
                    have z7 := frozenAt hz 2
                    have z8 := frozenAt hz 3
                    have z9 := frozenAt hz 4
                    go_simp
                    clear hz z0 z1 z2 z3 z4 z5 z6 z7 z8 z9
                    clear hH
                    first | (have T18 : Sep w ([boxR _ (.cells #[.string ⟨#[]⟩, .int .i64 0, .int .i64 0, .string ⟨#[]⟩, .bool false] 45), boxR _ (.cells #[.int .u8 kb, .int .u8 kc] 5)] ++ baseB) _ := (Sep.alloc T16 (.cells #[.string ⟨#[]⟩, .int .i64 0, .int .i64 0, .string ⟨#[]⟩, .bool false] 45)); (try simp only [size_drew, World.size_alloc] at T18); refine hK.out _ _ (KbaseB.out _ [_, _] T18) (fun hH => ?_)) | (have T18 : Sep w ([boxR _ (.cells #[.string ⟨#[]⟩, .int .i64 0, .int .i64 0, .string ⟨#[]⟩, .bool false] 45), boxR _ (.cells #[.int .u8 kb, .int .u8 kc] 5)] ++ baseB) _ := (Sep.setBox (cs := #[.string ⟨#[]⟩, .int .i64 0, .int .i64 0, .string ⟨#[]⟩, .bool false]) (t := 45) (Sep.setBox (cs := #[.string ⟨#[]⟩, .int .i64 0, .int .i64 0, .string ⟨#[]⟩, .bool false]) (t := 45) (Sep.setBox (cs := #[.string ⟨#[]⟩, .int .i64 0, .int .i64 0, .string ⟨#[]⟩, .bool false]) (t := 45) (Sep.setBox (cs := #[.string ⟨#[]⟩, .int .i64 0, .int .i64 0, .string ⟨#[]⟩, .bool false]) (t := 45) (Sep.setBox (cs := #[.string ⟨#[]⟩, .int .i64 0, .int .i64 0, .string ⟨#[]⟩, .bool false]) (t := 45) T17 0 rfl 0 (.string ⟨#[]⟩)) 0 rfl 1 (.int .i64 0)) 0 rfl 2 (.int .i64 0)) 0 rfl 3 (.string ⟨#[]⟩)) 0 rfl 4 (.bool false)); (try simp only [size_drew, World.size_alloc] at T18); refine hK.out _ _ (KbaseB.out _ [_, _] T18) (fun hH => ?_))
                    clear hK K
                    refine wpAnyH_done (by kernel_rfl) ?_ _
                    as_aux_lemma =>
                      go_wp2_with fail
                      go_meet
                      exact ⟨_, rfl, Sep.one T18 0 rfl⟩
                  · go_simp
                    have T19 : Sep w ([boxR _ (.cells #[.string ⟨#[]⟩, .int .i64 0, .int .i64 0, .string ⟨#[]⟩, .bool false] 45), boxR _ (.cells #[.int .u8 kb, .int .u8 kc] 5)] ++ baseA) _ := Sep.alloc T14 (.cells #[.string ⟨#[]⟩, .int .i64 0, .int .i64 0, .string ⟨#[]⟩, .bool false] 45)
                    try simp only [size_drew, World.size_alloc] at T19
                    clear hH
                    refine hK.out _ _ (KbaseA.out _ [_, _] T19) (fun hH => ?_)
                    clear hK K
                    refine readyT [10] ?_
                    refine consT (fun K hK => ?_) AllReadyH.nil
                    go_simp
                    go_wp2_with (go_at_call 20; refine (KT.out _ [_, _] T19).mono ?_; rintro e w20 ⟨rfl, T20⟩)
                    clear hH
                    refine hK.out _ _ (KbaseB.out _ [_, _] T20) (fun hH => ?_)
                    clear hK K
                    refine readyT [12] ?_
                    refine consT (fun K hK => ?_) AllReadyH.nil
                    have hz := T20.box 0 rfl
                    have z0 := cellAt hz 0 (v := .string ⟨#[]⟩) rfl
                    have z1 := cellAt hz 1 (v := .int .i64 0) rfl
                    have z2 := cellAt hz 2 (v := .int .i64 0) rfl
                    have z3 := cellAt hz 3 (v := .string ⟨#[]⟩) rfl
                    have z4 := cellAt hz 4 (v := .bool false) rfl
                    have z5 := frozenAt hz 0
                    have z6 := frozenAt hz 1
                    have z7 := frozenAt hz 2
                    have z8 := frozenAt hz 3
                    have z9 := frozenAt hz 4
                    go_simp
                    clear hz z0 z1 z2 z3 z4 z5 z6 z7 z8 z9
                    clear hH
                    have T21 : Sep w ([boxR _ (.cells #[.string ⟨#[]⟩, .int .i64 0, .int .i64 0, .string ⟨#[]⟩, .bool false] 45), boxR _ (.cells #[.int .u8 kb, .int .u8 kc] 5)] ++ baseB) _ := (Sep.setBox (cs := #[.string ⟨#[]⟩, .int .i64 0, .int .i64 0, .string ⟨#[]⟩, .bool false]) (t := 45) (Sep.setBox (cs := #[.string ⟨#[]⟩, .int .i64 0, .int .i64 0, .string ⟨#[]⟩, .bool false]) (t := 45) (Sep.setBox (cs := #[.string ⟨#[]⟩, .int .i64 0, .int .i64 0, .string ⟨#[]⟩, .bool false]) (t := 45) (Sep.setBox (cs := #[.string ⟨#[]⟩, .int .i64 0, .int .i64 0, .string ⟨#[]⟩, .bool false]) (t := 45) (Sep.setBox (cs := #[.string ⟨#[]⟩, .int .i64 0, .int .i64 0, .string ⟨#[]⟩, .bool false]) (t := 45) T20 0 rfl 0 (.string ⟨#[]⟩)) 0 rfl 1 (.int .i64 0)) 0 rfl 2 (.int .i64 0)) 0 rfl 3 (.string ⟨#[]⟩)) 0 rfl 4 (.bool false))
                    try simp only [size_drew, World.size_alloc] at T21
                    refine hK.out _ _ (KbaseB.out _ [_, _] T21) (fun hH => ?_)
                    clear hK K
                    refine wpAnyH_done (by kernel_rfl) ?_ _
                    as_aux_lemma =>
                      go_wp2_with fail
                      go_meet
                      exact ⟨_, rfl, Sep.one T21 0 rfl⟩
                · go_simp
                  have T22 : Sep w ([boxR _ (.cells #[.string ⟨#[]⟩, .int .i64 0, .int .i64 0, .string ⟨#[]⟩, .bool false] 45), boxR _ (.cells #[.int .u8 kb, .int .u8 kc] 5)] ++ baseA) _ := Sep.alloc T14 (.cells #[.string ⟨#[]⟩, .int .i64 0, .int .i64 0, .string ⟨#[]⟩, .bool false] 45)
                  try simp only [size_drew, World.size_alloc] at T22
                  clear hH
                  refine hK.out _ _ (KbaseA.out _ [_, _] T22) (fun hH => ?_)
                  clear hK K
                  refine readyT [8] ?_
                  refine consT (fun K hK => ?_) AllReadyH.nil
                  have hz := T22.box 1 rfl
                  have z0 := cellAt hz 0 (v := .int .u8 kb) rfl
                  have z1 := cellAt hz 1 (v := .int .u8 kc) rfl
                  have KC := name_ok _ _ pk 2 kb kc HB.out.1 HB.out.2 z0 z1
                  try simp only [World.alloc_drew] at KC
                  go_simp
                  clear hz z0 z1 KC
                  clear hH
                  refine hK.out _ _ (KbaseA.out _ [_, _] T22) (fun hH => ?_)
                  clear hK K
                  refine readyT [10] ?_
                  refine consT (fun K hK => ?_) AllReadyH.nil
                  go_simp
                  go_wp2_with (go_at_call 20; refine (KT.out _ [_, _] T22).mono ?_; rintro e w24 ⟨rfl, T24⟩)
                  clear hH
                  refine hK.out _ _ (KbaseB.out _ [_, _] T24) (fun hH => ?_)
                  clear hK K
                  refine readyT [12] ?_
                  refine consT (fun K hK => ?_) AllReadyH.nil
                  have hz := T24.box 0 rfl
                  have z0 := cellAt hz 0 (v := .string ⟨#[]⟩) rfl
                  have z1 := cellAt hz 1 (v := .int .i64 0) rfl
                  have z2 := cellAt hz 2 (v := .int .i64 0) rfl
                  have z3 := cellAt hz 3 (v := .string ⟨#[]⟩) rfl
                  have z4 := cellAt hz 4 (v := .bool false) rfl
                  have z5 := frozenAt hz 0
                  have z6 := frozenAt hz 1
                  have z7 := frozenAt hz 2
                  have z8 := frozenAt hz 3
                  have z9 := frozenAt hz 4
                  go_simp
                  clear hz z0 z1 z2 z3 z4 z5 z6 z7 z8 z9
                  clear hH
                  have T25 : Sep w ([boxR _ (.cells #[.string ⟨#[]⟩, .int .i64 0, .int .i64 0, .string ⟨#[]⟩, .bool false] 45), boxR _ (.cells #[.int .u8 kb, .int .u8 kc] 5)] ++ baseB) _ := (Sep.setBox (cs := #[.string ⟨#[]⟩, .int .i64 0, .int .i64 0, .string ⟨#[]⟩, .bool false]) (t := 45) (Sep.setBox (cs := #[.string ⟨#[]⟩, .int .i64 0, .int .i64 0, .string ⟨#[]⟩, .bool false]) (t := 45) (Sep.setBox (cs := #[.string ⟨#[]⟩, .int .i64 0, .int .i64 0, .string ⟨#[]⟩, .bool false]) (t := 45) (Sep.setBox (cs := #[.string ⟨#[]⟩, .int .i64 0, .int .i64 0, .string ⟨#[]⟩, .bool false]) (t := 45) (Sep.setBox (cs := #[.string ⟨#[]⟩, .int .i64 0, .int .i64 0, .string ⟨#[]⟩, .bool false]) (t := 45) T24 0 rfl 0 (.string ⟨#[]⟩)) 0 rfl 1 (.int .i64 0)) 0 rfl 2 (.int .i64 0)) 0 rfl 3 (.string ⟨#[]⟩)) 0 rfl 4 (.bool false))
                  try simp only [size_drew, World.size_alloc] at T25
                  refine hK.out _ _ (KbaseB.out _ [_, _] T25) (fun hH => ?_)
                  clear hK K
                  refine wpAnyH_done (by kernel_rfl) ?_ _
                  as_aux_lemma =>
                    go_wp2_with fail
                    go_meet
                    exact ⟨_, rfl, Sep.one T25 0 rfl⟩
              · go_simp
                have T26 : Sep w ([boxR _ (.cells #[.string ⟨#[]⟩, .int .i64 0, .int .i64 0, .string ⟨#[]⟩, .bool false] 45), boxR _ (.cells #[.int .u8 kb, .int .u8 kc] 5)] ++ baseA) _ := Sep.alloc T1 (.cells #[.string ⟨#[]⟩, .int .i64 0, .int .i64 0, .string ⟨#[]⟩, .bool false] 45)
                try simp only [size_drew, World.size_alloc] at T26
                clear hH
                refine hK.out _ _ (KbaseA.out _ [_, _] T26) (fun hH => ?_)
                clear hK K
                refine readyT [8, 9] ?_
                refine consT (fun K hK => ?_) (consT (fun K hK => ?_) AllReadyH.nil)
                · have hz := T26.box 1 rfl
                  have z0 := cellAt hz 0 (v := .int .u8 kb) rfl
                  have z1 := cellAt hz 1 (v := .int .u8 kc) rfl
                  have KC := name_ok _ _ pk 2 kb kc HB.out.1 HB.out.2 z0 z1
                  try simp only [World.alloc_drew] at KC
                  go_simp
                  clear hz z0 z1 KC
                  clear hH
                  refine hK.out _ _ (KbaseA.out _ [_, _] T26) (fun hH => ?_)
                  clear hK K
                  refine readyT [9] ?_
                  refine consT (fun K hK => ?_) AllReadyH.nil
                  go_simp
                  go_wp2_with (go_at_call 29; refine (KN.out _ [_, _] T26).mono ?_; rintro e w28 ⟨rfl, T28⟩)
                  clear hH
                  refine hK.out _ _ (KbaseA.out _ [_, _] T28) (fun hH => ?_)
                  clear hK K
                  refine readyT [10] ?_
                  refine consT (fun K hK => ?_) AllReadyH.nil
                  go_simp
                  go_wp2_with (go_at_call 20; refine (KT.out _ [_, _] T28).mono ?_; rintro e w29 ⟨rfl, T29⟩)
                  clear hH
                  refine hK.out _ _ (KbaseB.out _ [_, _] T29) (fun hH => ?_)
                  clear hK K
                  refine readyT [12] ?_
                  refine consT (fun K hK => ?_) AllReadyH.nil
                  have hz := T29.box 0 rfl
                  have z0 := cellAt hz 0 (v := .string ⟨#[]⟩) rfl
                  have z1 := cellAt hz 1 (v := .int .i64 0) rfl
                  have z2 := cellAt hz 2 (v := .int .i64 0) rfl
                  have z3 := cellAt hz 3 (v := .string ⟨#[]⟩) rfl
                  have z4 := cellAt hz 4 (v := .bool false) rfl
                  have z5 := frozenAt hz 0
                  have z6 := frozenAt hz 1
                  have z7 := frozenAt hz 2
                  have z8 := frozenAt hz 3
                  have z9 := frozenAt hz 4
                  go_simp
                  clear hz z0 z1 z2 z3 z4 z5 z6 z7 z8 z9
                  clear hH
                  have T30 : Sep w ([boxR _ (.cells #[.string ⟨#[]⟩, .int .i64 0, .int .i64 0, .string ⟨#[]⟩, .bool false] 45), boxR _ (.cells #[.int .u8 kb, .int .u8 kc] 5)] ++ baseB) _ := (Sep.setBox (cs := #[.string ⟨#[]⟩, .int .i64 0, .int .i64 0, .string ⟨#[]⟩, .bool false]) (t := 45) (Sep.setBox (cs := #[.string ⟨#[]⟩, .int .i64 0, .int .i64 0, .string ⟨#[]⟩, .bool false]) (t := 45) (Sep.setBox (cs := #[.string ⟨#[]⟩, .int .i64 0, .int .i64 0, .string ⟨#[]⟩, .bool false]) (t := 45) (Sep.setBox (cs := #[.string ⟨#[]⟩, .int .i64 0, .int .i64 0, .string ⟨#[]⟩, .bool false]) (t := 45) (Sep.setBox (cs := #[.string ⟨#[]⟩, .int .i64 0, .int .i64 0, .string ⟨#[]⟩, .bool false]) (t := 45) T29 0 rfl 0 (.string ⟨#[]⟩)) 0 rfl 1 (.int .i64 0)) 0 rfl 2 (.int .i64 0)) 0 rfl 3 (.string ⟨#[]⟩)) 0 rfl 4 (.bool false))
                  try simp only [size_drew, World.size_alloc] at T30
                  refine hK.out _ _ (KbaseB.out _ [_, _] T30) (fun hH => ?_)
                  clear hK K
                  refine wpAnyH_done (by kernel_rfl) ?_ _
                  as_aux_lemma =>
                    go_wp2_with fail
                    go_meet
                    exact ⟨_, rfl, Sep.one T30 0 rfl⟩
                · go_simp
                  go_wp2_with (go_at_call 29; refine (KN.out _ [_, _] T26).mono ?_; rintro e w31 ⟨rfl, T31⟩)
                  clear hH
                  refine hK.out _ _ (KbaseA.out _ [_, _] T31) (fun hH => ?_)
                  clear hK K
                  refine readyT [8] ?_
                  refine consT (fun K hK => ?_) AllReadyH.nil
                  have hz := T31.box 1 rfl
                  have z0 := cellAt hz 0 (v := .int .u8 kb) rfl
                  have z1 := cellAt hz 1 (v := .int .u8 kc) rfl
                  have KC := name_ok _ _ pk 2 kb kc HB.out.1 HB.out.2 z0 z1
                  try simp only [World.alloc_drew] at KC
                  go_simp
                  clear hz z0 z1 KC
                  clear hH
                  refine hK.out _ _ (KbaseA.out _ [_, _] T31) (fun hH => ?_)
                  clear hK K
                  refine readyT [10] ?_
                  refine consT (fun K hK => ?_) AllReadyH.nil
                  go_simp
                  go_wp2_with (go_at_call 20; refine (KT.out _ [_, _] T31).mono ?_; rintro e w33 ⟨rfl, T33⟩)
                  clear hH
                  refine hK.out _ _ (KbaseB.out _ [_, _] T33) (fun hH => ?_)
                  clear hK K
                  refine readyT [12] ?_
                  refine consT (fun K hK => ?_) AllReadyH.nil
                  have hz := T33.box 0 rfl
                  have z0 := cellAt hz 0 (v := .string ⟨#[]⟩) rfl
                  have z1 := cellAt hz 1 (v := .int .i64 0) rfl
                  have z2 := cellAt hz 2 (v := .int .i64 0) rfl
                  have z3 := cellAt hz 3 (v := .string ⟨#[]⟩) rfl
                  have z4 := cellAt hz 4 (v := .bool false) rfl
                  have z5 := frozenAt hz 0
                  have z6 := frozenAt hz 1
                  have z7 := frozenAt hz 2
                  have z8 := frozenAt hz 3
                  have z9 := frozenAt hz 4
                  go_simp
                  clear hz z0 z1 z2 z3 z4 z5 z6 z7 z8 z9
                  clear hH
                  have T34 : Sep w ([boxR _ (.cells #[.string ⟨#[]⟩, .int .i64 0, .int .i64 0, .string ⟨#[]⟩, .bool false] 45), boxR _ (.cells #[.int .u8 kb, .int .u8 kc] 5)] ++ baseB) _ := (Sep.setBox (cs := #[.string ⟨#[]⟩, .int .i64 0, .int .i64 0, .string ⟨#[]⟩, .bool false]) (t := 45) (Sep.setBox (cs := #[.string ⟨#[]⟩, .int .i64 0, .int .i64 0, .string ⟨#[]⟩, .bool false]) (t := 45) (Sep.setBox (cs := #[.string ⟨#[]⟩, .int .i64 0, .int .i64 0, .string ⟨#[]⟩, .bool false]) (t := 45) (Sep.setBox (cs := #[.string ⟨#[]⟩, .int .i64 0, .int .i64 0, .string ⟨#[]⟩, .bool false]) (t := 45) (Sep.setBox (cs := #[.string ⟨#[]⟩, .int .i64 0, .int .i64 0, .string ⟨#[]⟩, .bool false]) (t := 45) T33 0 rfl 0 (.string ⟨#[]⟩)) 0 rfl 1 (.int .i64 0)) 0 rfl 2 (.int .i64 0)) 0 rfl 3 (.string ⟨#[]⟩)) 0 rfl 4 (.bool false))
                  try simp only [size_drew, World.size_alloc] at T34
                  refine hK.out _ _ (KbaseB.out _ [_, _] T34) (fun hH => ?_)
                  clear hK K
                  refine wpAnyH_done (by kernel_rfl) ?_ _
                  as_aux_lemma =>
                    go_wp2_with fail
                    go_meet
                    exact ⟨_, rfl, Sep.one T34 0 rfl⟩
            · go_simp
              go_wp2_with (go_at_call 29; refine (KN.out _ [] T0).mono ?_; rintro e w35 ⟨rfl, T35⟩)
              clear hH
              refine hK.out _ _ (KbaseA.out _ [] T35) (fun hH => ?_)
              clear hK K
              refine readyT [7, 11] ?_
              refine consT (fun K hK => ?_) (consT (fun K hK => ?_) AllReadyH.nil)
              · go_simp
                have T36 : Sep w ([boxR _ (.cells #[.int .u8 kb, .int .u8 kc] 5)] ++ baseA) _ := Sep.alloc T35 (.cells #[.int .u8 kb, .int .u8 kc] 5)
                try simp only [size_drew, World.size_alloc] at T36
                clear hH
                refine hK.out _ _ (KbaseA.out _ [_] T36) (fun hH => ?_)
                clear hK K
                refine readyT [8, 11] ?_
                refine consT (fun K hK => ?_) (consT (fun K hK => ?_) AllReadyH.nil)
                · have hz := T36.box 0 rfl
                  have z0 := cellAt hz 0 (v := .int .u8 kb) rfl
                  have z1 := cellAt hz 1 (v := .int .u8 kc) rfl
                  have KC := name_ok _ _ pk 2 kb kc HB.out.1 HB.out.2 z0 z1
                  try simp only [World.alloc_drew] at KC
                  go_simp
                  clear hz z0 z1 KC
                  clear hH
                  refine hK.out _ _ (KbaseA.out _ [_] T36) (fun hH => ?_)
                  clear hK K
                  refine readyT [10, 11] ?_
                  refine consT (fun K hK => ?_) (consT (fun K hK => ?_) AllReadyH.nil)
                  · go_simp
                    go_wp2_with (go_at_call 20; refine (KT.out _ [_] T36).mono ?_; rintro e w38 ⟨rfl, T38⟩)
                    clear hH
                    refine hK.out _ _ (KbaseB.out _ [_] T38) (fun hH => ?_)
                    clear hK K
                    refine readyT [11] ?_
                    refine consT (fun K hK => ?_) AllReadyH.nil
                    go_simp
                    have T39 : Sep w ([boxR _ (.cells #[.string ⟨#[]⟩, .int .i64 0, .int .i64 0, .string ⟨#[]⟩, .bool false] 45), boxR _ (.cells #[.int .u8 kb, .int .u8 kc] 5)] ++ baseB) _ := Sep.alloc T38 (.cells #[.string ⟨#[]⟩, .int .i64 0, .int .i64 0, .string ⟨#[]⟩, .bool false] 45)
                    try simp only [size_drew, World.size_alloc] at T39
                    clear hH
                    refine hK.out _ _ (KbaseB.out _ [_, _] T39) (fun hH => ?_)
                    clear hK K
                    refine readyT [12] ?_
                    refine consT (fun K hK => ?_) AllReadyH.nil
                    have hz := T39.box 0 rfl
                    have z0 := cellAt hz 0 (v := .string ⟨#[]⟩) rfl
                    have z1 := cellAt hz 1 (v := .int .i64 0) rfl
                    have z2 := cellAt hz 2 (v := .int .i64 0) rfl
                    have z3 := cellAt hz 3 (v := .string ⟨#[]⟩) rfl
                    have z4 := cellAt hz 4 (v := .bool false) rfl
                    have z5 := frozenAt hz 0
                    have z6 := frozenAt hz 1
                    have z7 := frozenAt hz 2
                    have z8 := frozenAt hz 3
                    have z9 := frozenAt hz 4
                    go_simp
                    clear hz z0 z1 z2 z3 z4 z5 z6 z7 z8 z9
                    clear hH
                    first | (have T40 : Sep w ([boxR _ (.cells #[.string ⟨#[]⟩, .int .i64 0, .int .i64 0, .string ⟨#[]⟩, .bool false] 45), boxR _ (.cells #[.int .u8 kb, .int .u8 kc] 5)] ++ baseB) _ := (Sep.alloc T38 (.cells #[.string ⟨#[]⟩, .int .i64 0, .int .i64 0, .string ⟨#[]⟩, .bool false] 45)); (try simp only [size_drew, World.size_alloc] at T40); refine hK.out _ _ (KbaseB.out _ [_, _] T40) (fun hH => ?_)) | (have T40 : Sep w ([boxR _ (.cells #[.string ⟨#[]⟩, .int .i64 0, .int .i64 0, .string ⟨#[]⟩, .bool false] 45), boxR _ (.cells #[.int .u8 kb, .int .u8 kc] 5)] ++ baseB) _ := (Sep.setBox (cs := #[.string ⟨#[]⟩, .int .i64 0, .int .i64 0, .string ⟨#[]⟩, .bool false]) (t := 45) (Sep.setBox (cs := #[.string ⟨#[]⟩, .int .i64 0, .int .i64 0, .string ⟨#[]⟩, .bool false]) (t := 45) (Sep.setBox (cs := #[.string ⟨#[]⟩, .int .i64 0, .int .i64 0, .string ⟨#[]⟩, .bool false]) (t := 45) (Sep.setBox (cs := #[.string ⟨#[]⟩, .int .i64 0, .int .i64 0, .string ⟨#[]⟩, .bool false]) (t := 45) (Sep.setBox (cs := #[.string ⟨#[]⟩, .int .i64 0, .int .i64 0, .string ⟨#[]⟩, .bool false]) (t := 45) T39 0 rfl 0 (.string ⟨#[]⟩)) 0 rfl 1 (.int .i64 0)) 0 rfl 2 (.int .i64 0)) 0 rfl 3 (.string ⟨#[]⟩)) 0 rfl 4 (.bool false)); (try simp only [size_drew, World.size_alloc] at T40); refine hK.out _ _ (KbaseB.out _ [_, _] T40) (fun hH => ?_))
                    clear hK K
                    refine wpAnyH_done (by kernel_rfl) ?_ _
                    as_aux_lemma =>
                      go_wp2_with fail
                      go_meet
                      exact ⟨_, rfl, Sep.one T40 0 rfl⟩
                  · go_simp
                    have T41 : Sep w ([boxR _ (.cells #[.string ⟨#[]⟩, .int .i64 0, .int .i64 0, .string ⟨#[]⟩, .bool false] 45), boxR _ (.cells #[.int .u8 kb, .int .u8 kc] 5)] ++ baseA) _ := Sep.alloc T36 (.cells #[.string ⟨#[]⟩, .int .i64 0, .int .i64 0, .string ⟨#[]⟩, .bool false] 45)
                    try simp only [size_drew, World.size_alloc] at T41
                    clear hH
                    refine hK.out _ _ (KbaseA.out _ [_, _] T41) (fun hH => ?_)
                    clear hK K
                    refine readyT [10] ?_
                    refine consT (fun K hK => ?_) AllReadyH.nil
                    go_simp
                    go_wp2_with (go_at_call 20; refine (KT.out _ [_, _] T41).mono ?_; rintro e w42 ⟨rfl, T42⟩)
                    clear hH
                    refine hK.out _ _ (KbaseB.out _ [_, _] T42) (fun hH => ?_)
                    clear hK K
                    refine readyT [12] ?_
                    refine consT (fun K hK => ?_) AllReadyH.nil
                    have hz := T42.box 0 rfl
                    have z0 := cellAt hz 0 (v := .string ⟨#[]⟩) rfl
                    have z1 := cellAt hz 1 (v := .int .i64 0) rfl
                    have z2 := cellAt hz 2 (v := .int .i64 0) rfl
                    have z3 := cellAt hz 3 (v := .string ⟨#[]⟩) rfl
                    have z4 := cellAt hz 4 (v := .bool false) rfl
                    have z5 := frozenAt hz 0
                    have z6 := frozenAt hz 1
                    have z7 := frozenAt hz 2
                    have z8 := frozenAt hz 3
                    have z9 := frozenAt hz 4
                    go_simp
                    clear hz z0 z1 z2 z3 z4 z5 z6 z7 z8 z9
                    clear hH
                    have T43 : Sep w ([boxR _ (.cells #[.string ⟨#[]⟩, .int .i64 0, .int .i64 0, .string ⟨#[]⟩, .bool false] 45), boxR _ (.cells #[.int .u8 kb, .int .u8 kc] 5)] ++ baseB) _ := (Sep.setBox (cs := #[.string ⟨#[]⟩, .int .i64 0, .int .i64 0, .string ⟨#[]⟩, .bool false]) (t := 45) (Sep.setBox (cs := #[.string ⟨#[]⟩, .int .i64 0, .int .i64 0, .string ⟨#[]⟩, .bool false]) (t := 45) (Sep.setBox (cs := #[.string ⟨#[]⟩, .int .i64 0, .int .i64 0, .string ⟨#[]⟩, .bool false]) (t := 45) (Sep.setBox (cs := #[.string ⟨#[]⟩, .int .i64 0, .int .i64 0, .string ⟨#[]⟩, .bool false]) (t := 45) (Sep.setBox (cs := #[.string ⟨#[]⟩, .int .i64 0, .int .i64 0, .string ⟨#[]⟩, .bool false]) (t := 45) T42 0 rfl 0 (.string ⟨#[]⟩)) 0 rfl 1 (.int .i64 0)) 0 rfl 2 (.int .i64 0)) 0 rfl 3 (.string ⟨#[]⟩)) 0 rfl 4 (.bool false))
                    try simp only [size_drew, World.size_alloc] at T43
                    refine hK.out _ _ (KbaseB.out _ [_, _] T43) (fun hH => ?_)
                    clear hK K
                    refine wpAnyH_done (by kernel_rfl) ?_ _
                    as_aux_lemma =>
                      go_wp2_with fail
                      go_meet
                      exact ⟨_, rfl, Sep.one T43 0 rfl⟩
                · go_simp
                  have T44 : Sep w ([boxR _ (.cells #[.string ⟨#[]⟩, .int .i64 0, .int .i64 0, .string ⟨#[]⟩, .bool false] 45), boxR _ (.cells #[.int .u8 kb, .int .u8 kc] 5)] ++ baseA) _ := Sep.alloc T36 (.cells #[.string ⟨#[]⟩, .int .i64 0, .int .i64 0, .string ⟨#[]⟩, .bool false] 45)
                  try simp only [size_drew, World.size_alloc] at T44
                  clear hH
                  refine hK.out _ _ (KbaseA.out _ [_, _] T44) (fun hH => ?_)
                  clear hK K
                  refine readyT [8] ?_
                  refine consT (fun K hK => ?_) AllReadyH.nil
                  have hz := T44.box 1 rfl
                  have z0 := cellAt hz 0 (v := .int .u8 kb) rfl
                  have z1 := cellAt hz 1 (v := .int .u8 kc) rfl
                  have KC := name_ok _ _ pk 2 kb kc HB.out.1 HB.out.2 z0 z1
                  try simp only [World.alloc_drew] at KC
                  go_simp
                  clear hz z0 z1 KC
                  clear hH
                  refine hK.out _ _ (KbaseA.out _ [_, _] T44) (fun hH => ?_)
                  clear hK K
                  refine readyT [10] ?_
                  refine consT (fun K hK => ?_) AllReadyH.nil
                  go_simp
                  go_wp2_with (go_at_call 20; refine (KT.out _ [_, _] T44).mono ?_; rintro e w46 ⟨rfl, T46⟩)
                  clear hH
                  refine hK.out _ _ (KbaseB.out _ [_, _] T46) (fun hH => ?_)
                  clear hK K
                  refine readyT [12] ?_
                  refine consT (fun K hK => ?_) AllReadyH.nil
                  have hz := T46.box 0 rfl
                  have z0 := cellAt hz 0 (v := .string ⟨#[]⟩) rfl
                  have z1 := cellAt hz 1 (v := .int .i64 0) rfl
                  have z2 := cellAt hz 2 (v := .int .i64 0) rfl
                  have z3 := cellAt hz 3 (v := .string ⟨#[]⟩) rfl
                  have z4 := cellAt hz 4 (v := .bool false) rfl
                  have z5 := frozenAt hz 0
                  have z6 := frozenAt hz 1
                  have z7 := frozenAt hz 2
                  have z8 := frozenAt hz 3
                  have z9 := frozenAt hz 4
                  go_simp
                  clear hz z0 z1 z2 z3 z4 z5 z6 z7 z8 z9
                  clear hH
                  have T47 : Sep w ([boxR _ (.cells #[.string ⟨#[]⟩, .int .i64 0, .int .i64 0, .string ⟨#[]⟩, .bool false] 45), boxR _ (.cells #[.int .u8 kb, .int .u8 kc] 5)] ++ baseB) _ := (Sep.setBox (cs := #[.string ⟨#[]⟩, .int .i64 0, .int .i64 0, .string ⟨#[]⟩, .bool false]) (t := 45) (Sep.setBox (cs := #[.string ⟨#[]⟩, .int .i64 0, .int .i64 0, .string ⟨#[]⟩, .bool false]) (t := 45) (Sep.setBox (cs := #[.string ⟨#[]⟩, .int .i64 0, .int .i64 0, .string ⟨#[]⟩, .bool false]) (t := 45) (Sep.setBox (cs := #[.string ⟨#[]⟩, .int .i64 0, .int .i64 0, .string ⟨#[]⟩, .bool false]) (t := 45) (Sep.setBox (cs := #[.string ⟨#[]⟩, .int .i64 0, .int .i64 0, .string ⟨#[]⟩, .bool false]) (t := 45) T46 0 rfl 0 (.string ⟨#[]⟩)) 0 rfl 1 (.int .i64 0)) 0 rfl 2 (.int .i64 0)) 0 rfl 3 (.string ⟨#[]⟩)) 0 rfl 4 (.bool false))
                  try simp only [size_drew, World.size_alloc] at T47
                  refine hK.out _ _ (KbaseB.out _ [_, _] T47) (fun hH => ?_)
                  clear hK K
                  refine wpAnyH_done (by kernel_rfl) ?_ _
                  as_aux_lemma =>
                    go_wp2_with fail
                    go_meet
                    exact ⟨_, rfl, Sep.one T47 0 rfl⟩
              · go_simp
                have T48 : Sep w ([boxR _ (.cells #[.string ⟨#[]⟩, .int .i64 0, .int .i64 0, .string ⟨#[]⟩, .bool false] 45)] ++ baseA) _ := Sep.alloc T35 (.cells #[.string ⟨#[]⟩, .int .i64 0, .int .i64 0, .string ⟨#[]⟩, .bool false] 45)
                try simp only [size_drew, World.size_alloc] at T48
                clear hH
                refine hK.out _ _ (KbaseA.out _ [_] T48) (fun hH => ?_)
                clear hK K
                refine readyT [7] ?_
                refine consT (fun K hK => ?_) AllReadyH.nil
                go_simp
                have T49 : Sep w ([boxR _ (.cells #[.int .u8 kb, .int .u8 kc] 5), boxR _ (.cells #[.string ⟨#[]⟩, .int .i64 0, .int .i64 0, .string ⟨#[]⟩, .bool false] 45)] ++ baseA) _ := Sep.alloc T48 (.cells #[.int .u8 kb, .int .u8 kc] 5)
                try simp only [size_drew, World.size_alloc] at T49
                clear hH
                refine hK.out _ _ (KbaseA.out _ [_, _] T49) (fun hH => ?_)
                clear hK K
                refine readyT [8] ?_
                refine consT (fun K hK => ?_) AllReadyH.nil
                have hz := T49.box 0 rfl
                have z0 := cellAt hz 0 (v := .int .u8 kb) rfl
                have z1 := cellAt hz 1 (v := .int .u8 kc) rfl
                have KC := name_ok _ _ pk 2 kb kc HB.out.1 HB.out.2 z0 z1
                try simp only [World.alloc_drew] at KC
                go_simp
                clear hz z0 z1 KC
                clear hH
                refine hK.out _ _ (KbaseA.out _ [_, _] T49) (fun hH => ?_)
                clear hK K
                refine readyT [10] ?_
                refine consT (fun K hK => ?_) AllReadyH.nil
                go_simp
                go_wp2_with (go_at_call 20; refine (KT.out _ [_, _] T49).mono ?_; rintro e w51 ⟨rfl, T51⟩)
                clear hH
                refine hK.out _ _ (KbaseB.out _ [_, _] T51) (fun hH => ?_)
                clear hK K
                refine readyT [12] ?_
                refine consT (fun K hK => ?_) AllReadyH.nil
                have hz := T51.box 1 rfl
                have z0 := cellAt hz 0 (v := .string ⟨#[]⟩) rfl
                have z1 := cellAt hz 1 (v := .int .i64 0) rfl
                have z2 := cellAt hz 2 (v := .int .i64 0) rfl
                have z3 := cellAt hz 3 (v := .string ⟨#[]⟩) rfl
                have z4 := cellAt hz 4 (v := .bool false) rfl
                have z5 := frozenAt hz 0
                have z6 := frozenAt hz 1
                have z7 := frozenAt hz 2
                have z8 := frozenAt hz 3
                have z9 := frozenAt hz 4
                go_simp
                clear hz z0 z1 z2 z3 z4 z5 z6 z7 z8 z9
                clear hH
                have T52 : Sep w ([boxR _ (.cells #[.int .u8 kb, .int .u8 kc] 5), boxR _ (.cells #[.string ⟨#[]⟩, .int .i64 0, .int .i64 0, .string ⟨#[]⟩, .bool false] 45)] ++ baseB) _ := (Sep.setBox (cs := #[.string ⟨#[]⟩, .int .i64 0, .int .i64 0, .string ⟨#[]⟩, .bool false]) (t := 45) (Sep.setBox (cs := #[.string ⟨#[]⟩, .int .i64 0, .int .i64 0, .string ⟨#[]⟩, .bool false]) (t := 45) (Sep.setBox (cs := #[.string ⟨#[]⟩, .int .i64 0, .int .i64 0, .string ⟨#[]⟩, .bool false]) (t := 45) (Sep.setBox (cs := #[.string ⟨#[]⟩, .int .i64 0, .int .i64 0, .string ⟨#[]⟩, .bool false]) (t := 45) (Sep.setBox (cs := #[.string ⟨#[]⟩, .int .i64 0, .int .i64 0, .string ⟨#[]⟩, .bool false]) (t := 45) T51 1 rfl 0 (.string ⟨#[]⟩)) 1 rfl 1 (.int .i64 0)) 1 rfl 2 (.int .i64 0)) 1 rfl 3 (.string ⟨#[]⟩)) 1 rfl 4 (.bool false))
                try simp only [size_drew, World.size_alloc] at T52
                refine hK.out _ _ (KbaseB.out _ [_, _] T52) (fun hH => ?_)
                clear hK K
                refine wpAnyH_done (by kernel_rfl) ?_ _
                as_aux_lemma =>
                  go_wp2_with fail
                  go_meet
                  exact ⟨_, rfl, Sep.one T52 1 rfl⟩
            · go_simp
              have T53 : Sep w ([boxR _ (.cells #[.string ⟨#[]⟩, .int .i64 0, .int .i64 0, .string ⟨#[]⟩, .bool false] 45)] ++ baseA) _ := Sep.alloc T0 (.cells #[.string ⟨#[]⟩, .int .i64 0, .int .i64 0, .string ⟨#[]⟩, .bool false] 45)
              try simp only [size_drew, World.size_alloc] at T53
              clear hH
              refine hK.out _ _ (KbaseA.out _ [_] T53) (fun hH => ?_)
              clear hK K
              refine readyT [7, 9] ?_
              refine consT (fun K hK => ?_) (consT (fun K hK => ?_) AllReadyH.nil)
              · go_simp
                have T54 : Sep w ([boxR _ (.cells #[.int .u8 kb, .int .u8 kc] 5), boxR _ (.cells #[.string ⟨#[]⟩, .int .i64 0, .int .i64 0, .string ⟨#[]⟩, .bool false] 45)] ++ baseA) _ := Sep.alloc T53 (.cells #[.int .u8 kb, .int .u8 kc] 5)
                try simp only [size_drew, World.size_alloc] at T54
                clear hH
                refine hK.out _ _ (KbaseA.out _ [_, _] T54) (fun hH => ?_)
                clear hK K
                refine readyT [8, 9] ?_
                refine consT (fun K hK => ?_) (consT (fun K hK => ?_) AllReadyH.nil)
                · have hz := T54.box 0 rfl
                  have z0 := cellAt hz 0 (v := .int .u8 kb) rfl
                  have z1 := cellAt hz 1 (v := .int .u8 kc) rfl
                  have KC := name_ok _ _ pk 2 kb kc HB.out.1 HB.out.2 z0 z1
                  try simp only [World.alloc_drew] at KC
                  go_simp
                  clear hz z0 z1 KC
                  clear hH
                  refine hK.out _ _ (KbaseA.out _ [_, _] T54) (fun hH => ?_)
                  clear hK K
                  refine readyT [9] ?_
                  refine consT (fun K hK => ?_) AllReadyH.nil
                  go_simp
                  go_wp2_with (go_at_call 29; refine (KN.out _ [_, _] T54).mono ?_; rintro e w56 ⟨rfl, T56⟩)
                  clear hH
                  refine hK.out _ _ (KbaseA.out _ [_, _] T56) (fun hH => ?_)
                  clear hK K
                  refine readyT [10] ?_
                  refine consT (fun K hK => ?_) AllReadyH.nil
                  go_simp
                  go_wp2_with (go_at_call 20; refine (KT.out _ [_, _] T56).mono ?_; rintro e w57 ⟨rfl, T57⟩)
                  clear hH
                  refine hK.out _ _ (KbaseB.out _ [_, _] T57) (fun hH => ?_)
                  clear hK K
                  refine readyT [12] ?_
                  refine consT (fun K hK => ?_) AllReadyH.nil
                  have hz := T57.box 1 rfl
                  have z0 := cellAt hz 0 (v := .string ⟨#[]⟩) rfl
                  have z1 := cellAt hz 1 (v := .int .i64 0) rfl
                  have z2 := cellAt hz 2 (v := .int .i64 0) rfl
                  have z3 := cellAt hz 3 (v := .string ⟨#[]⟩) rfl
                  have z4 := cellAt hz 4 (v := .bool false) rfl
                  have z5 := frozenAt hz 0
                  have z6 := frozenAt hz 1
                  have z7 := frozenAt hz 2
                  have z8 := frozenAt hz 3
                  have z9 := frozenAt hz 4
                  go_simp
                  clear hz z0 z1 z2 z3 z4 z5 z6 z7 z8 z9
                  clear hH
                  have T58 : Sep w ([boxR _ (.cells #[.int .u8 kb, .int .u8 kc] 5), boxR _ (.cells #[.string ⟨#[]⟩, .int .i64 0, .int .i64 0, .string ⟨#[]⟩, .bool false] 45)] ++ baseB) _ := (Sep.setBox (cs := #[.string ⟨#[]⟩, .int .i64 0, .int .i64 0, .string ⟨#[]⟩, .bool false]) (t := 45) (Sep.setBox (cs := #[.string ⟨#[]⟩, .int .i64 0, .int .i64 0, .string ⟨#[]⟩, .bool false]) (t := 45) (Sep.setBox (cs := #[.string ⟨#[]⟩, .int .i64 0, .int .i64 0, .string ⟨#[]⟩, .bool false]) (t := 45) (Sep.setBox (cs := #[.string ⟨#[]⟩, .int .i64 0, .int .i64 0, .string ⟨#[]⟩, .bool false]) (t := 45) (Sep.setBox (cs := #[.string ⟨#[]⟩, .int .i64 0, .int .i64 0, .string ⟨#[]⟩, .bool false]) (t := 45) T57 1 rfl 0 (.string ⟨#[]⟩)) 1 rfl 1 (.int .i64 0)) 1 rfl 2 (.int .i64 0)) 1 rfl 3 (.string ⟨#[]⟩)) 1 rfl 4 (.bool false))
                  try simp only [size_drew, World.size_alloc] at T58
                  refine hK.out _ _ (KbaseB.out _ [_, _] T58) (fun hH => ?_)
                  clear hK K
                  refine wpAnyH_done (by kernel_rfl) ?_ _
                  as_aux_lemma =>
                    go_wp2_with fail
                    go_meet
                    exact ⟨_, rfl, Sep.one T58 1 rfl⟩
                · go_simp
                  go_wp2_with (go_at_call 29; refine (KN.out _ [_, _] T54).mono ?_; rintro e w59 ⟨rfl, T59⟩)
                  clear hH
                  refine hK.out _ _ (KbaseA.out _ [_, _] T59) (fun hH => ?_)
                  clear hK K
                  refine readyT [8] ?_
                  refine consT (fun K hK => ?_) AllReadyH.nil
                  have hz := T59.box 0 rfl
                  have z0 := cellAt hz 0 (v := .int .u8 kb) rfl
                  have z1 := cellAt hz 1 (v := .int .u8 kc) rfl
                  have KC := name_ok _ _ pk 2 kb kc HB.out.1 HB.out.2 z0 z1
                  try simp only [World.alloc_drew] at KC
                  go_simp
                  clear hz z0 z1 KC
                  clear hH
                  refine hK.out _ _ (KbaseA.out _ [_, _] T59) (fun hH => ?_)
                  clear hK K
                  refine readyT [10] ?_
                  refine consT (fun K hK => ?_) AllReadyH.nil
                  go_simp
                  go_wp2_with (go_at_call 20; refine (KT.out _ [_, _] T59).mono ?_; rintro e w61 ⟨rfl, T61⟩)
                  clear hH
                  refine hK.out _ _ (KbaseB.out _ [_, _] T61) (fun hH => ?_)
                  clear hK K
                  refine readyT [12] ?_
                  refine consT (fun K hK => ?_) AllReadyH.nil
                  have hz := T61.box 1 rfl
                  have z0 := cellAt hz 0 (v := .string ⟨#[]⟩) rfl
                  have z1 := cellAt hz 1 (v := .int .i64 0) rfl
                  have z2 := cellAt hz 2 (v := .int .i64 0) rfl
                  have z3 := cellAt hz 3 (v := .string ⟨#[]⟩) rfl
                  have z4 := cellAt hz 4 (v := .bool false) rfl
                  have z5 := frozenAt hz 0
                  have z6 := frozenAt hz 1
                  have z7 := frozenAt hz 2
                  have z8 := frozenAt hz 3
                  have z9 := frozenAt hz 4
                  go_simp
                  clear hz z0 z1 z2 z3 z4 z5 z6 z7 z8 z9
                  clear hH
                  have T62 : Sep w ([boxR _ (.cells #[.int .u8 kb, .int .u8 kc] 5), boxR _ (.cells #[.string ⟨#[]⟩, .int .i64 0, .int .i64 0, .string ⟨#[]⟩, .bool false] 45)] ++ baseB) _ := (Sep.setBox (cs := #[.string ⟨#[]⟩, .int .i64 0, .int .i64 0, .string ⟨#[]⟩, .bool false]) (t := 45) (Sep.setBox (cs := #[.string ⟨#[]⟩, .int .i64 0, .int .i64 0, .string ⟨#[]⟩, .bool false]) (t := 45) (Sep.setBox (cs := #[.string ⟨#[]⟩, .int .i64 0, .int .i64 0, .string ⟨#[]⟩, .bool false]) (t := 45) (Sep.setBox (cs := #[.string ⟨#[]⟩, .int .i64 0, .int .i64 0, .string ⟨#[]⟩, .bool false]) (t := 45) (Sep.setBox (cs := #[.string ⟨#[]⟩, .int .i64 0, .int .i64 0, .string ⟨#[]⟩, .bool false]) (t := 45) T61 1 rfl 0 (.string ⟨#[]⟩)) 1 rfl 1 (.int .i64 0)) 1 rfl 2 (.int .i64 0)) 1 rfl 3 (.string ⟨#[]⟩)) 1 rfl 4 (.bool false))
                  try simp only [size_drew, World.size_alloc] at T62
                  refine hK.out _ _ (KbaseB.out _ [_, _] T62) (fun hH => ?_)
                  clear hK K
                  refine wpAnyH_done (by kernel_rfl) ?_ _
                  as_aux_lemma =>
                    go_wp2_with fail
                    go_meet
                    exact ⟨_, rfl, Sep.one T62 1 rfl⟩
              · go_simp
                go_wp2_with (go_at_call 29; refine (KN.out _ [_] T53).mono ?_; rintro e w63 ⟨rfl, T63⟩)
                clear hH
                refine hK.out _ _ (KbaseA.out _ [_] T63) (fun hH => ?_)
                clear hK K
                refine readyT [7] ?_
                refine consT (fun K hK => ?_) AllReadyH.nil
                go_simp
                have T64 : Sep w ([boxR _ (.cells #[.int .u8 kb, .int .u8 kc] 5), boxR _ (.cells #[.string ⟨#[]⟩, .int .i64 0, .int .i64 0, .string ⟨#[]⟩, .bool false] 45)] ++ baseA) _ := Sep.alloc T63 (.cells #[.int .u8 kb, .int .u8 kc] 5)
                try simp only [size_drew, World.size_alloc] at T64
                clear hH
                refine hK.out _ _ (KbaseA.out _ [_, _] T64) (fun hH => ?_)
                clear hK K
                refine readyT [8] ?_
                refine consT (fun K hK => ?_) AllReadyH.nil
                have hz := T64.box 0 rfl
                have z0 := cellAt hz 0 (v := .int .u8 kb) rfl
                have z1 := cellAt hz 1 (v := .int .u8 kc) rfl
                have KC := name_ok _ _ pk 2 kb kc HB.out.1 HB.out.2 z0 z1
                try simp only [World.alloc_drew] at KC
                go_simp
                clear hz z0 z1 KC
                clear hH
                refine hK.out _ _ (KbaseA.out _ [_, _] T64) (fun hH => ?_)
                clear hK K
                refine readyT [10] ?_
                refine consT (fun K hK => ?_) AllReadyH.nil
                go_simp
                go_wp2_with (go_at_call 20; refine (KT.out _ [_, _] T64).mono ?_; rintro e w66 ⟨rfl, T66⟩)
                clear hH
                refine hK.out _ _ (KbaseB.out _ [_, _] T66) (fun hH => ?_)
                clear hK K
                refine readyT [12] ?_
                refine consT (fun K hK => ?_) AllReadyH.nil
                have hz := T66.box 1 rfl
                have z0 := cellAt hz 0 (v := .string ⟨#[]⟩) rfl
                have z1 := cellAt hz 1 (v := .int .i64 0) rfl
                have z2 := cellAt hz 2 (v := .int .i64 0) rfl
                have z3 := cellAt hz 3 (v := .string ⟨#[]⟩) rfl
                have z4 := cellAt hz 4 (v := .bool false) rfl
                have z5 := frozenAt hz 0
                have z6 := frozenAt hz 1
                have z7 := frozenAt hz 2
                have z8 := frozenAt hz 3
                have z9 := frozenAt hz 4
                go_simp
                clear hz z0 z1 z2 z3 z4 z5 z6 z7 z8 z9
                clear hH
                have T67 : Sep w ([boxR _ (.cells #[.int .u8 kb, .int .u8 kc] 5), boxR _ (.cells #[.string ⟨#[]⟩, .int .i64 0, .int .i64 0, .string ⟨#[]⟩, .bool false] 45)] ++ baseB) _ := (Sep.setBox (cs := #[.string ⟨#[]⟩, .int .i64 0, .int .i64 0, .string ⟨#[]⟩, .bool false]) (t := 45) (Sep.setBox (cs := #[.string ⟨#[]⟩, .int .i64 0, .int .i64 0, .string ⟨#[]⟩, .bool false]) (t := 45) (Sep.setBox (cs := #[.string ⟨#[]⟩, .int .i64 0, .int .i64 0, .string ⟨#[]⟩, .bool false]) (t := 45) (Sep.setBox (cs := #[.string ⟨#[]⟩, .int .i64 0, .int .i64 0, .string ⟨#[]⟩, .bool false]) (t := 45) (Sep.setBox (cs := #[.string ⟨#[]⟩, .int .i64 0, .int .i64 0, .string ⟨#[]⟩, .bool false]) (t := 45) T66 1 rfl 0 (.string ⟨#[]⟩)) 1 rfl 1 (.int .i64 0)) 1 rfl 2 (.int .i64 0)) 1 rfl 3 (.string ⟨#[]⟩)) 1 rfl 4 (.bool false))
                try simp only [size_drew, World.size_alloc] at T67
                refine hK.out _ _ (KbaseB.out _ [_, _] T67) (fun hH => ?_)
                clear hK K
                refine wpAnyH_done (by kernel_rfl) ?_ _
                as_aux_lemma =>
                  go_wp2_with fail
                  go_meet
                  exact ⟨_, rfl, Sep.one T67 1 rfl⟩
        case rest =>
          obtain ⟨x12, rfl, S⟩ := hcut
          rw [HbaseB.out] at S
          clear KN KT KbaseA KbaseB HbaseA HbaseB e8 e9
          replace S : Sep w (boxR x12 (.cells #[.string ⟨#[]⟩, .int .i64 0, .int .i64 0, .string ⟨#[]⟩, .bool false] 45) :: boxR x11 (.cells #[.string ⟨#[77, 101, 109, 111, 114, 121, 69, 114, 114, 111, 114]⟩, .int .i64 0, .int .i64 0, .string ⟨#[]⟩, .bool false] 45) :: boxR (x7 + 1) (.cells #[.string ⟨#[]⟩, .int .i64 0, .int .i64 0, .string ⟨#[]⟩, .bool false] 45) :: boxR x7 (.cells #[.int .i64 4, .int .i64 2, .string ⟨#[]⟩] 33) :: heapR h H3 :: []) _ := S
          have d0 := cellAt (S.box (b := x7) 3 rfl) 0 (v := .int .i64 4) rfl
          have d1 := cellAt (S.box (b := x7) 3 rfl) 1 (v := .int .i64 2) rfl
          have d2 := cellAt (S.box (b := x7) 3 rfl) 2 (v := .string ⟨#[]⟩) rfl
          have d3 := cellAt (S.box (b := x11) 1 rfl) 0 (v := .string ⟨#[77, 101, 109, 111, 114, 121, 69, 114, 114, 111, 114]⟩) rfl
          have d4 := cellAt (S.box (b := x11) 1 rfl) 1 (v := .int .i64 0) rfl
          have d5 := cellAt (S.box (b := x11) 1 rfl) 2 (v := .int .i64 0) rfl
          have d6 := cellAt (S.box (b := x11) 1 rfl) 3 (v := .string ⟨#[]⟩) rfl
          have d7 := cellAt (S.box (b := x11) 1 rfl) 4 (v := .bool false) rfl
          have d8 := cellAt (S.box (b := x12) 0 rfl) 0 (v := .string ⟨#[]⟩) rfl
          have d9 := cellAt (S.box (b := x12) 0 rfl) 1 (v := .int .i64 0) rfl
          have d10 := cellAt (S.box (b := x12) 0 rfl) 2 (v := .int .i64 0) rfl
          have d11 := cellAt (S.box (b := x12) 0 rfl) 3 (v := .string ⟨#[]⟩) rfl
          have d12 := cellAt (S.box (b := x12) 0 rfl) 4 (v := .bool false) rfl
          have M := Lib.hid (kf_size S 4 rfl r2F 4096 (by rw [FV.out.2]; rfl))
          clear S
          go_wp2_with fail
          refine M.out.mono ?_
          rintro e w5 ⟨rfl, S⟩
          clear M d0 d1 d2 d3 d4 d5 d6 d7 d8 d9 d10 d11 d12
          replace S : Sep w (boxR x12 (.cells #[.string ⟨#[]⟩, .int .i64 0, .int .i64 0, .string ⟨#[]⟩, .bool false] 45) :: boxR x11 (.cells #[.string ⟨#[77, 101, 109, 111, 114, 121, 69, 114, 114, 111, 114]⟩, .int .i64 0, .int .i64 0, .string ⟨#[]⟩, .bool false] 45) :: boxR (x7 + 1) (.cells #[.string ⟨#[]⟩, .int .i64 0, .int .i64 0, .string ⟨#[]⟩, .bool false] 45) :: boxR x7 (.cells #[.int .i64 4, .int .i64 2, .string ⟨#[]⟩] 33) :: heapR h H3 :: []) _ := S
          replace S := Lib.hid S.below
          go_wp2
          go_ret
          exact ⟨rfl, S.out⟩
set_option maxRecDepth 100000 in
set_option maxHeartbeats 12800000 in
theorem walk_inst (w : World) (wh : Int) :
    Calls Try.prog 5 #[.bool false, .int .i64 wh] w fun e W' => e = .returned (.bool true) ∧ Below w.heap.size w W' := by
  have S := Sep.start (Below.refl w.heap.size w)
  have M0 := Lib.hid ((shown_ok w).mono fun e W1 (hh : _ ∧ _) => (⟨hh.1, S.later hh.2⟩ : _ ∧ Sep w ([]) W1))
  clear S
  have EZ : ∀ W, (binOp .neq 45 excZ excZ).run Try.prog W = .ok (.bool false) W := fun W => by go_simp
  have EY : ∀ W, (binOp .eql 45 excZ excZ).run Try.prog W = .ok (.bool true) W := fun W => by go_simp
  have EM : ∀ W, (binOp .eql 45 (excN memError) (excN memError)).run Try.prog W = .ok (.bool true) W := fun W => by go_simp
  go_enter Try.func5, Try.ntmps5
  go_wp2_with fail
  refine M0.out.mono ?_
  rintro e w1 ⟨rfl, S⟩
  clear M0
  have M := Lib.hid (S.new)
  clear S
  go_wp2_with fail
  refine M.out.mono ?_
  rintro e w2 ⟨h, rfl, S, -⟩
  clear M
  replace S : Sep w (heapR h ⟨[], 0⟩ :: []) _ := S
  have M := Lib.hid (kf_make S 0 rfl)
  clear S
  go_wp2_with fail
  refine M.out.mono ?_
  rintro e w3 ⟨rfl, S⟩
  clear M
  replace S : Sep w (heapR h dictH :: []) _ := S
  have M := Lib.hid (kf_class S 0 rfl)
  clear S
  go_wp2_with fail
  refine M.out.mono ?_
  rintro e w4 ⟨rfl, S⟩
  clear M
  replace S : Sep w (heapR h clsH :: []) _ := S
  obtain ⟨x7, hx7⟩ : ∃ gx_, (w4.heap.size) = gx_ := ⟨_, rfl⟩
  replace S := ((S.alloc (.cells #[.int .i64 4, .int .i64 2, .string ⟨#[]⟩] 33)).alloc (.cells #[.string ⟨#[]⟩, .int .i64 0, .int .i64 0, .string ⟨#[]⟩, .bool false] 45))
  simp only [World.size_alloc, hx7] at S
  replace S : Sep w (boxR (x7 + 1) (.cells #[.string ⟨#[]⟩, .int .i64 0, .int .i64 0, .string ⟨#[]⟩, .bool false] 45) :: boxR x7 (.cells #[.int .i64 4, .int .i64 2, .string ⟨#[]⟩] 33) :: heapR h clsH :: []) _ := S
  have d0 := cellAt (S.box (b := x7) 1 rfl) 0 (v := .int .i64 4) rfl
  have d1 := cellAt (S.box (b := x7) 1 rfl) 1 (v := .int .i64 2) rfl
  have d2 := cellAt (S.box (b := x7) 1 rfl) 2 (v := .string ⟨#[]⟩) rfl
  have d3 := cellAt (S.box (b := x7 + 1) 0 rfl) 0 (v := .string ⟨#[]⟩) rfl
  have d4 := cellAt (S.box (b := x7 + 1) 0 rfl) 1 (v := .int .i64 0) rfl
  have d5 := cellAt (S.box (b := x7 + 1) 0 rfl) 2 (v := .int .i64 0) rfl
  have d6 := cellAt (S.box (b := x7 + 1) 0 rfl) 3 (v := .string ⟨#[]⟩) rfl
  have d7 := cellAt (S.box (b := x7 + 1) 0 rfl) 4 (v := .bool false) rfl
  have M := Lib.hid (kf_inst S 2 rfl)
  clear S
  go_wp2_with fail
  try simp only [hx7]
  refine M.out.mono ?_
  rintro e w5 ⟨rfl, S⟩
  clear M d0 d1 d2 d3 d4 d5 d6 d7 hx7
  replace S : Sep w (boxR (x7 + 1) (.cells #[.string ⟨#[]⟩, .int .i64 0, .int .i64 0, .string ⟨#[]⟩, .bool false] 45) :: boxR x7 (.cells #[.int .i64 4, .int .i64 2, .string ⟨#[]⟩] 33) :: heapR h insH :: []) _ := S
  have hz := S.box (b := x7) (o := .cells #[.int .i64 4, .int .i64 2, .string ⟨#[]⟩] 33) 1 rfl
  have z0 := cellAt hz 0 (v := .int .i64 4) rfl
  have z1 := cellAt hz 1 (v := .int .i64 2) rfl
  have z2 := cellAt hz 2 (v := .string ⟨#[]⟩) rfl
  have z3 := frozenAt hz 0
  have z4 := frozenAt hz 1
  have z5 := frozenAt hz 2
  have S9 : Hid (Sep w (boxR (x7 + 1) (.cells #[.string ⟨#[]⟩, .int .i64 0, .int .i64 0, .string ⟨#[]⟩, .bool false] 45) :: boxR x7 (.cells #[.int .i64 4, .int .i64 3, .string ⟨#[]⟩] 33) :: heapR h insH :: []) _) := Lib.hid (Sep.setBox (cs := #[.int .i64 4, .int .i64 3, .string ⟨#[]⟩]) (t := 33) (Sep.setBox (cs := #[.int .i64 4, .int .i64 2, .string ⟨#[]⟩]) (t := 33) (Sep.setBox (cs := #[.int .i64 4, .int .i64 2, .string ⟨#[]⟩]) (t := 33) S 1 rfl 0 (.int .i64 4)) 1 rfl 1 (.int .i64 3)) 1 rfl 2 (.string ⟨#[]⟩))
  clear hz S
  go_wp2
  go_loopw [9] (fun kv wr => ∃ k : Nat, ∃ H : HeapM, k ≤ 4096 ∧ kv = .int .i64 k ∧ FullAt r3F k H ∧ Sep w (boxR (x7 + 1) (.cells #[.string ⟨#[]⟩, .int .i64 0, .int .i64 0, .string ⟨#[]⟩, .bool false] 45) :: boxR x7 (.cells #[.int .i64 4, .int .i64 3, .string ⟨#[]⟩] 33) :: heapR h H :: []) wr) (fun kv _ => 4096 - (intOf kv).toNat)
  case atStart => exact ⟨0, _, by omega, rfl, insH_full, S9.out⟩
  case round =>
    clear z0 z1 z2 z3 z4 z5
    clear S9
    obtain ⟨k, H, hk, rfl, F, S⟩ := hrel
    have FF := Lib.hid F
    clear F
    by_cases hkk : k < 4096
    · have hlt : (k : Int) < 4096 := by omega
      have FN := Lib.hid (FF.out.next hkk (numV 1 (by decide)))
      obtain ⟨H2, hH2⟩ : ∃ H2, H.put r3F (twoK k) (numV 1 (by decide)) = H2 := ⟨_, rfl⟩
      rw [hH2] at FN
      have HH := Lib.hid hH2
      have HK := Lib.hid (And.intro hk hkk)
      obtain ⟨kb, hkb⟩ : ∃ x, x = ((UInt8.ofNat (k % 256)).toNat : Int) := ⟨_, rfl⟩
      obtain ⟨kc, hkc⟩ : ∃ x, x = ((UInt8.ofNat (k / 256)).toNat : Int) := ⟨_, rfl⟩
      have e8 := (byte_lo k hkk).1
      have e9 := (byte_lo k hkk).2
      rw [← hkb] at e8
      rw [← hkc] at e9
      have HB := Lib.hid (And.intro hkb hkc)
      clear hkb hkc hH2 hk hkk
      obtain ⟨baseA, hbaseA⟩ : ∃ base, base = boxR (x7 + 1) (.cells #[.string ⟨#[]⟩, .int .i64 0, .int .i64 0, .string ⟨#[]⟩, .bool false] 45) :: boxR x7 (.cells #[.int .i64 4, .int .i64 3, .string ⟨#[]⟩] 33) :: heapR h H :: [] := ⟨_, rfl⟩
      have HbaseA := Lib.hid hbaseA
      have KbaseA : Hid (∀ W (Q : List Res), Sep w (Q ++ baseA) W → W.cell? ⟨x7, 0, none⟩ = some (.int .i64 4) ∧ W.cell? ⟨x7, 1, none⟩ = some (.int .i64 3) ∧ W.cell? ⟨x7, 2, none⟩ = some (.string ⟨#[]⟩)) := Lib.hid fun W Q T => by
        rw [hbaseA] at T
        have i0 := T.box (b := x7) (o := .cells #[.int .i64 4, .int .i64 3, .string ⟨#[]⟩] 33) (Q.length + 1) (by rw [List.getElem?_append_right (by omega), Nat.add_sub_cancel_left]; rfl)
        exact ⟨cellAt i0 0 rfl, cellAt i0 1 rfl, cellAt i0 2 rfl⟩
      obtain ⟨baseB, hbaseB⟩ : ∃ base, base = boxR (x7 + 1) (.cells #[.string ⟨#[]⟩, .int .i64 0, .int .i64 0, .string ⟨#[]⟩, .bool false] 45) :: boxR x7 (.cells #[.int .i64 4, .int .i64 3, .string ⟨#[]⟩] 33) :: heapR h H2 :: [] := ⟨_, rfl⟩
      have HbaseB := Lib.hid hbaseB
      have KbaseB : Hid (∀ W (Q : List Res), Sep w (Q ++ baseB) W → W.cell? ⟨x7, 0, none⟩ = some (.int .i64 4) ∧ W.cell? ⟨x7, 1, none⟩ = some (.int .i64 3) ∧ W.cell? ⟨x7, 2, none⟩ = some (.string ⟨#[]⟩)) := Lib.hid fun W Q T => by
        rw [hbaseB] at T
        have i0 := T.box (b := x7) (o := .cells #[.int .i64 4, .int .i64 3, .string ⟨#[]⟩] 33) (Q.length + 1) (by rw [List.getElem?_append_right (by omega), Nat.add_sub_cancel_left]; rfl)
        exact ⟨cellAt i0 0 rfl, cellAt i0 1 rfl, cellAt i0 2 rfl⟩
      have KN : Hid (∀ W (Q : List Res), Sep w (Q ++ baseA) W → Calls Try.prog 29 #[.int .i64 1] W fun e W' => e = .returned (.agg #[.int .i64 2, .int .i64 1, .string ⟨#[]⟩]) ∧ Sep w (Q ++ baseA) W') := Lib.hid fun W Q T => by
        exact (num_ok W _).mono fun e W' ⟨e1, e2⟩ => ⟨e1, T.later e2⟩
      have KT : Hid (∀ W (Q : List Res), Sep w (Q ++ baseA) W → Calls Try.prog 20 #[.pointer (some ⟨h, 0, none⟩), .agg #[.int .i64 4, .int .i64 3, .string ⟨#[]⟩], .string (twoS k), .agg #[.int .i64 2, .int .i64 1, .string ⟨#[]⟩]] W fun e W' => e = .returned (excZ) ∧ Sep w (Q ++ baseB) W') := Lib.hid fun W Q T => by
        rw [HbaseA.out] at T
        rw [HbaseB.out]
        have hh := kf_set T (Q.length + 2) (by rw [List.getElem?_append_right (by omega), Nat.add_sub_cancel_left]; rfl) r3F (numV 1 (by decide)) (twoS k) (twoS_le k) FF.out.opens true (FF.out.can HK.out.2) H2 HH.out
        try rw [List.set_append_right _ _ (by omega), Nat.add_sub_cancel_left] at hh
        exact hh
      replace S : Sep w baseA wr := by rw [hbaseA]; exact S
      replace S := Lib.hid S
      clear hbaseA hbaseB
      go_upto_region 13 with fail
      go_cut [51] from 35 to 51 (fun s51 wx => s51 = .bool false ∧ Sep w baseB wx)
      case first =>
        have T0 : Sep w ([] ++ baseA) _ := S.out.drew
        clear S
        as_aux_lemma =>
          refine wp_region_held_drew (S := fun W => W.cell? ⟨x7, 0, none⟩ = some (.int .i64 4) ∧ W.cell? ⟨x7, 1, none⟩ = some (.int .i64 3) ∧ W.cell? ⟨x7, 2, none⟩ = some (.string ⟨#[]⟩)) (by kernel_rfl) (KbaseA.out _ [] T0) (fun hH => ?_)
          refine takeT 0 hH (hy := .inl ⟨by rfl, by (intro w hSw; try obtain ⟨u0, u1, u2⟩ := hSw); (go_simp; try rfl)⟩) (h := ?_)
          simp only [Act.put, List.setIfInBounds_toArray, List.set_cons_zero, List.set_cons_succ]
          refine takeT 1 hH (hy := .inl ⟨by rfl, by (intro w hSw; try obtain ⟨u0, u1, u2⟩ := hSw); (go_simp; try rfl)⟩) (h := ?_)
          simp only [Act.put, List.setIfInBounds_toArray, List.set_cons_zero, List.set_cons_succ]
          refine takeT 2 hH (hy := .inl ⟨by rfl, by (intro w hSw; try obtain ⟨u0, u1, u2⟩ := hSw); (go_simp; try rfl)⟩) (h := ?_)
          simp only [Act.put, List.setIfInBounds_toArray, List.set_cons_zero, List.set_cons_succ]
          refine takeT 3 hH (hy := .inl ⟨by rfl, by (intro w hSw; try obtain ⟨u0, u1, u2⟩ := hSw); (go_simp; try rfl)⟩) (h := ?_)
          simp only [Act.put, List.setIfInBounds_toArray, List.set_cons_zero, List.set_cons_succ]
          refine takeT 4 hH (hy := .inl ⟨by rfl, by (intro w hSw; try obtain ⟨u0, u1, u2⟩ := hSw); (go_simp; try rfl)⟩) (h := ?_)
          simp only [Act.put, List.setIfInBounds_toArray, List.set_cons_zero, List.set_cons_succ]
          refine takeT 5 hH (hy := .inl ⟨by rfl, by (intro w hSw; try obtain ⟨u0, u1, u2⟩ := hSw); (go_simp; try rfl)⟩) (h := ?_)
          simp only [Act.put, List.setIfInBounds_toArray, List.set_cons_zero, List.set_cons_succ]
          refine takeT 6 hH (hy := .inl ⟨by rfl, by (intro w hSw; try obtain ⟨u0, u1, u2⟩ := hSw); (go_simp; try rfl)⟩) (h := ?_)
          simp only [Act.put, List.setIfInBounds_toArray, List.set_cons_zero, List.set_cons_succ]
          refine takeT 11 hH (hy := .inl ⟨by rfl, by (intro w hSw; try obtain ⟨u0, u1, u2⟩ := hSw); (go_simp; try rfl)⟩) (h := ?_)
          simp only [Act.put, List.setIfInBounds_toArray, List.set_cons_zero, List.set_cons_succ]
          refine readyT [7, 9] ?_
          refine consT (fun K hK => ?_) (consT (fun K hK => ?_) AllReadyH.nil)
          · go_simp
            have T1 : Sep w ([boxR _ (.cells #[.int .u8 kb, .int .u8 kc] 5)] ++ baseA) _ := Sep.alloc T0 (.cells #[.int .u8 kb, .int .u8 kc] 5)
            try simp only [size_drew, World.size_alloc] at T1
            clear hH
            refine hK.out _ _ (KbaseA.out _ [_] T1) (fun hH => ?_)
            clear hK K
            refine readyT [8, 9] ?_
            refine consT (fun K hK => ?_) (consT (fun K hK => ?_) AllReadyH.nil)
            · have hz := T1.box 0 rfl
              have z0 := cellAt hz 0 (v := .int .u8 kb) rfl
              have z1 := cellAt hz 1 (v := .int .u8 kc) rfl
              have KC := name_ok _ _ k 2 kb kc HB.out.1 HB.out.2 z0 z1
              try simp only [World.alloc_drew] at KC
              go_simp
              clear hz z0 z1 KC
              clear hH
              refine hK.out _ _ (KbaseA.out _ [_] T1) (fun hH => ?_)
              clear hK K
              refine readyT [9] ?_
              refine consT (fun K hK => ?_) AllReadyH.nil
              go_simp
              go_wp2_with (go_at_call 29; refine (KN.out _ [_] T1).mono ?_; rintro e w3 ⟨rfl, T3⟩)
              clear hH
              refine hK.out _ _ (KbaseA.out _ [_] T3) (fun hH => ?_)
              clear hK K
              refine readyT [10] ?_
              refine consT (fun K hK => ?_) AllReadyH.nil
              go_simp
              go_wp2_with (go_at_call 20; refine (KT.out _ [_] T3).mono ?_; rintro e w4 ⟨rfl, T4⟩)
              clear hH
              refine hK.out _ _ (KbaseB.out _ [_] T4) (fun hH => ?_)
              clear hK K
              refine takeT 12 hH (hy := .inl ⟨by rfl, by (intro w hSw; try obtain ⟨u0, u1, u2⟩ := hSw); (go_simp; try rfl)⟩) (h := ?_)
              simp only [Act.put, List.setIfInBounds_toArray, List.set_cons_zero, List.set_cons_succ]
              refine wpAnyH_done (by kernel_rfl) ?_ _
              as_aux_lemma =>
                go_wp2_with fail
                go_meet
                exact ⟨rfl, Sep.tail T4⟩
            · go_simp
              go_wp2_with (go_at_call 29; refine (KN.out _ [_] T1).mono ?_; rintro e w5 ⟨rfl, T5⟩)
              clear hH
              refine hK.out _ _ (KbaseA.out _ [_] T5) (fun hH => ?_)
              clear hK K
              refine readyT [8] ?_
              refine consT (fun K hK => ?_) AllReadyH.nil
              have hz := T5.box 0 rfl
              have z0 := cellAt hz 0 (v := .int .u8 kb) rfl
              have z1 := cellAt hz 1 (v := .int .u8 kc) rfl
              have KC := name_ok _ _ k 2 kb kc HB.out.1 HB.out.2 z0 z1
              try simp only [World.alloc_drew] at KC
              go_simp
              clear hz z0 z1 KC
              clear hH
              refine hK.out _ _ (KbaseA.out _ [_] T5) (fun hH => ?_)
              clear hK K
              refine readyT [10] ?_
              refine consT (fun K hK => ?_) AllReadyH.nil
              go_simp
              go_wp2_with (go_at_call 20; refine (KT.out _ [_] T5).mono ?_; rintro e w7 ⟨rfl, T7⟩)
              clear hH
              refine hK.out _ _ (KbaseB.out _ [_] T7) (fun hH => ?_)
              clear hK K
              refine takeT 12 hH (hy := .inl ⟨by rfl, by (intro w hSw; try obtain ⟨u0, u1, u2⟩ := hSw); (go_simp; try rfl)⟩) (h := ?_)
              simp only [Act.put, List.setIfInBounds_toArray, List.set_cons_zero, List.set_cons_succ]
              refine wpAnyH_done (by kernel_rfl) ?_ _
              as_aux_lemma =>
                go_wp2_with fail
                go_meet
                exact ⟨rfl, Sep.tail T7⟩
          · go_simp
            go_wp2_with (go_at_call 29; refine (KN.out _ [] T0).mono ?_; rintro e w8 ⟨rfl, T8⟩)
            clear hH
            refine hK.out _ _ (KbaseA.out _ [] T8) (fun hH => ?_)
            clear hK K
            refine readyT [7] ?_
            refine consT (fun K hK => ?_) AllReadyH.nil
            go_simp
            have T9 : Sep w ([boxR _ (.cells #[.int .u8 kb, .int .u8 kc] 5)] ++ baseA) _ := Sep.alloc T8 (.cells #[.int .u8 kb, .int .u8 kc] 5)
            try simp only [size_drew, World.size_alloc] at T9
            clear hH
            refine hK.out _ _ (KbaseA.out _ [_] T9) (fun hH => ?_)
            clear hK K
            refine readyT [8] ?_
            refine consT (fun K hK => ?_) AllReadyH.nil
            have hz := T9.box 0 rfl
            have z0 := cellAt hz 0 (v := .int .u8 kb) rfl
            have z1 := cellAt hz 1 (v := .int .u8 kc) rfl
            have KC := name_ok _ _ k 2 kb kc HB.out.1 HB.out.2 z0 z1
            try simp only [World.alloc_drew] at KC
            go_simp
            clear hz z0 z1 KC
            clear hH
            refine hK.out _ _ (KbaseA.out _ [_] T9) (fun hH => ?_)
            clear hK K
            refine readyT [10] ?_
            refine consT (fun K hK => ?_) AllReadyH.nil
            go_simp
            go_wp2_with (go_at_call 20; refine (KT.out _ [_] T9).mono ?_; rintro e w11 ⟨rfl, T11⟩)
            clear hH
            refine hK.out _ _ (KbaseB.out _ [_] T11) (fun hH => ?_)
            clear hK K
            refine takeT 12 hH (hy := .inl ⟨by rfl, by (intro w hSw; try obtain ⟨u0, u1, u2⟩ := hSw); (go_simp; try rfl)⟩) (h := ?_)
            simp only [Act.put, List.setIfInBounds_toArray, List.set_cons_zero, List.set_cons_succ]
            refine wpAnyH_done (by kernel_rfl) ?_ _
            as_aux_lemma =>
              go_wp2_with fail
              go_meet
              exact ⟨rfl, Sep.tail T11⟩
      case rest =>
        obtain ⟨rfl, S⟩ := hcut
        rw [HbaseB.out] at S
        have S9 : Hid (Sep w (boxR (x7 + 1) (.cells #[.string ⟨#[]⟩, .int .i64 0, .int .i64 0, .string ⟨#[]⟩, .bool false] 45) :: boxR x7 (.cells #[.int .i64 4, .int .i64 3, .string ⟨#[]⟩] 33) :: heapR h H2 :: []) _) := Lib.hid S
        clear S KN KT KbaseA KbaseB HbaseA HbaseB e8 e9
        have hkk := HK.out.2
        go_wp2
        exact ⟨⟨k + 1, H2, by omega, by go_num, FN.out, S9.out⟩, by simp [intOf]; omega⟩
    · obtain rfl : k = 4096 := by omega
      have hlt : (((4096 : Nat) : Int) < 4096) = False := by simp
      clear hkk hk
      have hpk : pickN 4096 wh < 4096 := Nat.mod_lt _ (by omega)
      have hnum : (bits .and .i64 wh 65535).tmod 4096 = (pickN 4096 wh : Int) := pick_num 4096 wh
      obtain ⟨pk, hpkk⟩ : ∃ gx_, (pickN 4096 wh) = gx_ := ⟨_, rfl⟩
      rw [hpkk] at hpk hnum
      have FU := Lib.hid (FF.out.full (numV 2 (by decide)) (numV 3 (by decide)))
      have FV := Lib.hid (FU.out.2.2 pk hpk)
      obtain ⟨H3, hH3⟩ : ∃ H3, H.put r3F (twoK pk) (numV 3 (by decide)) = H3 := ⟨_, rfl⟩
      rw [hH3] at FV
      have HH := Lib.hid hH3
      clear hH3 hpkk
      obtain ⟨baseA, hbaseA⟩ : ∃ base, base = boxR (x7 + 1) (.cells #[.string ⟨#[]⟩, .int .i64 0, .int .i64 0, .string ⟨#[]⟩, .bool false] 45) :: boxR x7 (.cells #[.int .i64 4, .int .i64 3, .string ⟨#[]⟩] 33) :: heapR h H :: [] := ⟨_, rfl⟩
      have HbaseA := Lib.hid hbaseA
      have KbaseA : Hid (∀ W (Q : List Res), Sep w (Q ++ baseA) W → W.cell? ⟨x7, 0, none⟩ = some (.int .i64 4) ∧ W.cell? ⟨x7, 1, none⟩ = some (.int .i64 3) ∧ W.cell? ⟨x7, 2, none⟩ = some (.string ⟨#[]⟩)) := Lib.hid fun W Q T => by
        rw [hbaseA] at T
        have i0 := T.box (b := x7) (o := .cells #[.int .i64 4, .int .i64 3, .string ⟨#[]⟩] 33) (Q.length + 1) (by rw [List.getElem?_append_right (by omega), Nat.add_sub_cancel_left]; rfl)
        exact ⟨cellAt i0 0 rfl, cellAt i0 1 rfl, cellAt i0 2 rfl⟩
      have KN : Hid (∀ W (Q : List Res), Sep w (Q ++ baseA) W → Calls Try.prog 29 #[.int .i64 2] W fun e W' => e = .returned (.agg #[.int .i64 2, .int .i64 2, .string ⟨#[]⟩]) ∧ Sep w (Q ++ baseA) W') := Lib.hid fun W Q T => by
        exact (num_ok W _).mono fun e W' ⟨e1, e2⟩ => ⟨e1, T.later e2⟩
      have KT : Hid (∀ W (Q : List Res), Sep w (Q ++ baseA) W → Calls Try.prog 20 #[.pointer (some ⟨h, 0, none⟩), .agg #[.int .i64 4, .int .i64 3, .string ⟨#[]⟩], .string ⟨#[120, 121, 122]⟩, .agg #[.int .i64 2, .int .i64 2, .string ⟨#[]⟩]] W fun e W' => e = .returned (excN memError) ∧ Sep w (Q ++ baseA) W') := Lib.hid fun W Q T => by
        rw [HbaseA.out] at T
        rw [HbaseA.out]
        have hh := kf_set T (Q.length + 2) (by rw [List.getElem?_append_right (by omega), Nat.add_sub_cancel_left]; rfl) r3F (numV 2 (by decide)) xyzS xyzS_le FF.out.opens false FU.out.1 H FU.out.2.1
        try rw [List.set_append_right _ _ (by omega), Nat.add_sub_cancel_left] at hh
        exact hh
      replace S : Sep w baseA wr := by rw [hbaseA]; exact S
      replace S := Lib.hid S
      clear hbaseA
      go_upto_region 16 with fail
      go_cut [11] from 52 (fun s11 wx => ∃ qx, s11 = .pointer (some ⟨qx, 0, none⟩) ∧ Sep w (boxR qx (.cells #[.string ⟨#[77, 101, 109, 111, 114, 121, 69, 114, 114, 111, 114]⟩, .int .i64 0, .int .i64 0, .string ⟨#[]⟩, .bool false] 45) :: baseA) wx)
      case first =>
        have T0 : Sep w ([] ++ baseA) _ := S.out.drew
        clear S
        as_aux_lemma =>
          refine wp_region_held_drew (S := fun W => W.cell? ⟨x7, 0, none⟩ = some (.int .i64 4) ∧ W.cell? ⟨x7, 1, none⟩ = some (.int .i64 3) ∧ W.cell? ⟨x7, 2, none⟩ = some (.string ⟨#[]⟩)) (by kernel_rfl) (KbaseA.out _ [] T0) (fun hH => ?_)
          refine takeT 0 hH (hy := .inl ⟨by rfl, by (intro w hSw; try obtain ⟨u0, u1, u2⟩ := hSw); (go_simp; try rfl)⟩) (h := ?_)
          simp only [Act.put, List.setIfInBounds_toArray, List.set_cons_zero, List.set_cons_succ]
          refine takeT 1 hH (hy := .inl ⟨by rfl, by (intro w hSw; try obtain ⟨u0, u1, u2⟩ := hSw); (go_simp; try rfl)⟩) (h := ?_)
          simp only [Act.put, List.setIfInBounds_toArray, List.set_cons_zero, List.set_cons_succ]
          refine readyT [2, 4] ?_
          refine consT (fun K hK => ?_) (consT (fun K hK => ?_) AllReadyH.nil)
          · go_simp
            go_wp2_with (go_at_call 29; refine (KN.out _ [] T0).mono ?_; rintro e w1 ⟨rfl, T1⟩)
            clear hH
            refine hK.out _ _ (KbaseA.out _ [] T1) (fun hH => ?_)
            clear hK K
            refine readyT [3, 4] ?_
            refine consT (fun K hK => ?_) (consT (fun K hK => ?_) AllReadyH.nil)
            · go_simp
              go_wp2_with (go_at_call 20; refine (KT.out _ [] T1).mono ?_; rintro e w2 ⟨rfl, T2⟩)
              clear hH
              refine hK.out _ _ (KbaseA.out _ [] T2) (fun hH => ?_)
              clear hK K
              refine readyT [4] ?_
              refine consT (fun K hK => ?_) AllReadyH.nil
              go_simp
              have T3 : Sep w ([boxR _ (.cells #[.string ⟨#[]⟩, .int .i64 0, .int .i64 0, .string ⟨#[]⟩, .bool false] 45)] ++ baseA) _ := Sep.alloc T2 (.cells #[.string ⟨#[]⟩, .int .i64 0, .int .i64 0, .string ⟨#[]⟩, .bool false] 45)
              try simp only [size_drew, World.size_alloc] at T3
              clear hH
              refine hK.out _ _ (KbaseA.out _ [_] T3) (fun hH => ?_)
              clear hK K
              refine readyT [5] ?_
              refine consT (fun K hK => ?_) AllReadyH.nil
              have hz := T3.box 0 rfl
              have z0 := cellAt hz 0 (v := .string ⟨#[]⟩) rfl
              have z1 := cellAt hz 1 (v := .int .i64 0) rfl
              have z2 := cellAt hz 2 (v := .int .i64 0) rfl
              have z3 := cellAt hz 3 (v := .string ⟨#[]⟩) rfl
              have z4 := cellAt hz 4 (v := .bool false) rfl
              have z5 := frozenAt hz 0
              have z6 := frozenAt hz 1
              have z7 := frozenAt hz 2
              have z8 := frozenAt hz 3
              have z9 := frozenAt hz 4
              go_simp
              clear hz z0 z1 z2 z3 z4 z5 z6 z7 z8 z9
              clear hH
              first | (have T4 : Sep w ([boxR _ (.cells #[.string ⟨#[77, 101, 109, 111, 114, 121, 69, 114, 114, 111, 114]⟩, .int .i64 0, .int .i64 0, .string ⟨#[]⟩, .bool false] 45)] ++ baseA) _ := (Sep.alloc T2 (.cells #[.string ⟨#[77, 101, 109, 111, 114, 121, 69, 114, 114, 111, 114]⟩, .int .i64 0, .int .i64 0, .string ⟨#[]⟩, .bool false] 45)); (try simp only [size_drew, World.size_alloc] at T4); refine hK.out _ _ (KbaseA.out _ [_] T4) (fun hH => ?_)) | (have T4 : Sep w ([boxR _ (.cells #[.string ⟨#[77, 101, 109, 111, 114, 121, 69, 114, 114, 111, 114]⟩, .int .i64 0, .int .i64 0, .string ⟨#[]⟩, .bool false] 45)] ++ baseA) _ := (Sep.setBox (cs := #[.string ⟨#[77, 101, 109, 111, 114, 121, 69, 114, 114, 111, 114]⟩, .int .i64 0, .int .i64 0, .string ⟨#[]⟩, .bool false]) (t := 45) (Sep.setBox (cs := #[.string ⟨#[77, 101, 109, 111, 114, 121, 69, 114, 114, 111, 114]⟩, .int .i64 0, .int .i64 0, .string ⟨#[]⟩, .bool false]) (t := 45) (Sep.setBox (cs := #[.string ⟨#[77, 101, 109, 111, 114, 121, 69, 114, 114, 111, 114]⟩, .int .i64 0, .int .i64 0, .string ⟨#[]⟩, .bool false]) (t := 45) (Sep.setBox (cs := #[.string ⟨#[77, 101, 109, 111, 114, 121, 69, 114, 114, 111, 114]⟩, .int .i64 0, .int .i64 0, .string ⟨#[]⟩, .bool false]) (t := 45) (Sep.setBox (cs := #[.string ⟨#[]⟩, .int .i64 0, .int .i64 0, .string ⟨#[]⟩, .bool false]) (t := 45) T3 0 rfl 0 (.string ⟨#[77, 101, 109, 111, 114, 121, 69, 114, 114, 111, 114]⟩)) 0 rfl 1 (.int .i64 0)) 0 rfl 2 (.int .i64 0)) 0 rfl 3 (.string ⟨#[]⟩)) 0 rfl 4 (.bool false)); (try simp only [size_drew, World.size_alloc] at T4); refine hK.out _ _ (KbaseA.out _ [_] T4) (fun hH => ?_))
              clear hK K
              refine wpAnyH_done (by kernel_rfl) ?_ _
              as_aux_lemma =>
                go_wp2_with fail
                go_meet
                exact ⟨_, rfl, T4⟩
            · go_simp
              have T5 : Sep w ([boxR _ (.cells #[.string ⟨#[]⟩, .int .i64 0, .int .i64 0, .string ⟨#[]⟩, .bool false] 45)] ++ baseA) _ := Sep.alloc T1 (.cells #[.string ⟨#[]⟩, .int .i64 0, .int .i64 0, .string ⟨#[]⟩, .bool false] 45)
              try simp only [size_drew, World.size_alloc] at T5
              clear hH
              refine hK.out _ _ (KbaseA.out _ [_] T5) (fun hH => ?_)
              clear hK K
              refine readyT [3] ?_
              refine consT (fun K hK => ?_) AllReadyH.nil
              go_simp
              go_wp2_with (go_at_call 20; refine (KT.out _ [_] T5).mono ?_; rintro e w6 ⟨rfl, T6⟩)
              clear hH
              refine hK.out _ _ (KbaseA.out _ [_] T6) (fun hH => ?_)
              clear hK K
              refine readyT [5] ?_
              refine consT (fun K hK => ?_) AllReadyH.nil
              have hz := T6.box 0 rfl
              have z0 := cellAt hz 0 (v := .string ⟨#[]⟩) rfl
              have z1 := cellAt hz 1 (v := .int .i64 0) rfl
              have z2 := cellAt hz 2 (v := .int .i64 0) rfl
              have z3 := cellAt hz 3 (v := .string ⟨#[]⟩) rfl
              have z4 := cellAt hz 4 (v := .bool false) rfl
              have z5 := frozenAt hz 0
              have z6 := frozenAt hz 1
              have z7 := frozenAt hz 2
              have z8 := frozenAt hz 3
              have z9 := frozenAt hz 4
              go_simp
              clear hz z0 z1 z2 z3 z4 z5 z6 z7 z8 z9
              clear hH
              have T7 : Sep w ([boxR _ (.cells #[.string ⟨#[77, 101, 109, 111, 114, 121, 69, 114, 114, 111, 114]⟩, .int .i64 0, .int .i64 0, .string ⟨#[]⟩, .bool false] 45)] ++ baseA) _ := (Sep.setBox (cs := #[.string ⟨#[77, 101, 109, 111, 114, 121, 69, 114, 114, 111, 114]⟩, .int .i64 0, .int .i64 0, .string ⟨#[]⟩, .bool false]) (t := 45) (Sep.setBox (cs := #[.string ⟨#[77, 101, 109, 111, 114, 121, 69, 114, 114, 111, 114]⟩, .int .i64 0, .int .i64 0, .string ⟨#[]⟩, .bool false]) (t := 45) (Sep.setBox (cs := #[.string ⟨#[77, 101, 109, 111, 114, 121, 69, 114, 114, 111, 114]⟩, .int .i64 0, .int .i64 0, .string ⟨#[]⟩, .bool false]) (t := 45) (Sep.setBox (cs := #[.string ⟨#[77, 101, 109, 111, 114, 121, 69, 114, 114, 111, 114]⟩, .int .i64 0, .int .i64 0, .string ⟨#[]⟩, .bool false]) (t := 45) (Sep.setBox (cs := #[.string ⟨#[]⟩, .int .i64 0, .int .i64 0, .string ⟨#[]⟩, .bool false]) (t := 45) T6 0 rfl 0 (.string ⟨#[77, 101, 109, 111, 114, 121, 69, 114, 114, 111, 114]⟩)) 0 rfl 1 (.int .i64 0)) 0 rfl 2 (.int .i64 0)) 0 rfl 3 (.string ⟨#[]⟩)) 0 rfl 4 (.bool false))
              try simp only [size_drew, World.size_alloc] at T7
              refine hK.out _ _ (KbaseA.out _ [_] T7) (fun hH => ?_)
              clear hK K
              refine wpAnyH_done (by kernel_rfl) ?_ _
              as_aux_lemma =>
                go_wp2_with fail
                go_meet
                exact ⟨_, rfl, T7⟩
          · go_simp
            have T8 : Sep w ([boxR _ (.cells #[.string ⟨#[]⟩, .int .i64 0, .int .i64 0, .string ⟨#[]⟩, .bool false] 45)] ++ baseA) _ := Sep.alloc T0 (.cells #[.string ⟨#[]⟩, .int .i64 0, .int .i64 0, .string ⟨#[]⟩, .bool false] 45)
            try simp only [size_drew, World.size_alloc] at T8
            clear hH
            refine hK.out _ _ (KbaseA.out _ [_] T8) (fun hH => ?_)
            clear hK K
            refine readyT [2] ?_
            refine consT (fun K hK => ?_) AllReadyH.nil
            go_simp
            go_wp2_with (go_at_call 29; refine (KN.out _ [_] T8).mono ?_; rintro e w9 ⟨rfl, T9⟩)
            clear hH
            refine hK.out _ _ (KbaseA.out _ [_] T9) (fun hH => ?_)
            clear hK K
            refine readyT [3] ?_
            refine consT (fun K hK => ?_) AllReadyH.nil
            go_simp
            go_wp2_with (go_at_call 20; refine (KT.out _ [_] T9).mono ?_; rintro e w10 ⟨rfl, T10⟩)
            clear hH
            refine hK.out _ _ (KbaseA.out _ [_] T10) (fun hH => ?_)
            clear hK K
            refine readyT [5] ?_
            refine consT (fun K hK => ?_) AllReadyH.nil
            have hz := T10.box 0 rfl
            have z0 := cellAt hz 0 (v := .string ⟨#[]⟩) rfl
            have z1 := cellAt hz 1 (v := .int .i64 0) rfl
            have z2 := cellAt hz 2 (v := .int .i64 0) rfl
            have z3 := cellAt hz 3 (v := .string ⟨#[]⟩) rfl
            have z4 := cellAt hz 4 (v := .bool false) rfl
            have z5 := frozenAt hz 0
            have z6 := frozenAt hz 1
            have z7 := frozenAt hz 2
            have z8 := frozenAt hz 3
            have z9 := frozenAt hz 4
            go_simp
            clear hz z0 z1 z2 z3 z4 z5 z6 z7 z8 z9
            clear hH
            have T11 : Sep w ([boxR _ (.cells #[.string ⟨#[77, 101, 109, 111, 114, 121, 69, 114, 114, 111, 114]⟩, .int .i64 0, .int .i64 0, .string ⟨#[]⟩, .bool false] 45)] ++ baseA) _ := (Sep.setBox (cs := #[.string ⟨#[77, 101, 109, 111, 114, 121, 69, 114, 114, 111, 114]⟩, .int .i64 0, .int .i64 0, .string ⟨#[]⟩, .bool false]) (t := 45) (Sep.setBox (cs := #[.string ⟨#[77, 101, 109, 111, 114, 121, 69, 114, 114, 111, 114]⟩, .int .i64 0, .int .i64 0, .string ⟨#[]⟩, .bool false]) (t := 45) (Sep.setBox (cs := #[.string ⟨#[77, 101, 109, 111, 114, 121, 69, 114, 114, 111, 114]⟩, .int .i64 0, .int .i64 0, .string ⟨#[]⟩, .bool false]) (t := 45) (Sep.setBox (cs := #[.string ⟨#[77, 101, 109, 111, 114, 121, 69, 114, 114, 111, 114]⟩, .int .i64 0, .int .i64 0, .string ⟨#[]⟩, .bool false]) (t := 45) (Sep.setBox (cs := #[.string ⟨#[]⟩, .int .i64 0, .int .i64 0, .string ⟨#[]⟩, .bool false]) (t := 45) T10 0 rfl 0 (.string ⟨#[77, 101, 109, 111, 114, 121, 69, 114, 114, 111, 114]⟩)) 0 rfl 1 (.int .i64 0)) 0 rfl 2 (.int .i64 0)) 0 rfl 3 (.string ⟨#[]⟩)) 0 rfl 4 (.bool false))
            try simp only [size_drew, World.size_alloc] at T11
            refine hK.out _ _ (KbaseA.out _ [_] T11) (fun hH => ?_)
            clear hK K
            refine wpAnyH_done (by kernel_rfl) ?_ _
            as_aux_lemma =>
              go_wp2_with fail
              go_meet
              exact ⟨_, rfl, T11⟩
      case rest =>
        obtain ⟨x11, rfl, S⟩ := hcut
        rw [HbaseA.out] at S
        clear KN KT KbaseA HbaseA
        replace S : Sep w (boxR x11 (.cells #[.string ⟨#[77, 101, 109, 111, 114, 121, 69, 114, 114, 111, 114]⟩, .int .i64 0, .int .i64 0, .string ⟨#[]⟩, .bool false] 45) :: boxR (x7 + 1) (.cells #[.string ⟨#[]⟩, .int .i64 0, .int .i64 0, .string ⟨#[]⟩, .bool false] 45) :: boxR x7 (.cells #[.int .i64 4, .int .i64 3, .string ⟨#[]⟩] 33) :: heapR h H :: []) _ := S
        obtain ⟨kb, hkb⟩ : ∃ x, x = ((UInt8.ofNat (pk % 256)).toNat : Int) := ⟨_, rfl⟩
        obtain ⟨kc, hkc⟩ : ∃ x, x = ((UInt8.ofNat (pk / 256)).toNat : Int) := ⟨_, rfl⟩
        have e8 := (byte_lo pk hpk).1
        have e9 := (byte_lo pk hpk).2
        rw [← hkb] at e8
        rw [← hkc] at e9
        have HB := Lib.hid (And.intro hkb hkc)
        clear hkb hkc hpk
        obtain ⟨baseA, hbaseA⟩ : ∃ base, base = boxR x11 (.cells #[.string ⟨#[77, 101, 109, 111, 114, 121, 69, 114, 114, 111, 114]⟩, .int .i64 0, .int .i64 0, .string ⟨#[]⟩, .bool false] 45) :: boxR (x7 + 1) (.cells #[.string ⟨#[]⟩, .int .i64 0, .int .i64 0, .string ⟨#[]⟩, .bool false] 45) :: boxR x7 (.cells #[.int .i64 4, .int .i64 3, .string ⟨#[]⟩] 33) :: heapR h H :: [] := ⟨_, rfl⟩
        have HbaseA := Lib.hid hbaseA
        have KbaseA : Hid (∀ W (Q : List Res), Sep w (Q ++ baseA) W → W.cell? ⟨x7, 0, none⟩ = some (.int .i64 4) ∧ W.cell? ⟨x7, 1, none⟩ = some (.int .i64 3) ∧ W.cell? ⟨x7, 2, none⟩ = some (.string ⟨#[]⟩)) := Lib.hid fun W Q T => by
          rw [hbaseA] at T
          have i0 := T.box (b := x7) (o := .cells #[.int .i64 4, .int .i64 3, .string ⟨#[]⟩] 33) (Q.length + 2) (by rw [List.getElem?_append_right (by omega), Nat.add_sub_cancel_left]; rfl)
          exact ⟨cellAt i0 0 rfl, cellAt i0 1 rfl, cellAt i0 2 rfl⟩
        obtain ⟨baseB, hbaseB⟩ : ∃ base, base = boxR x11 (.cells #[.string ⟨#[77, 101, 109, 111, 114, 121, 69, 114, 114, 111, 114]⟩, .int .i64 0, .int .i64 0, .string ⟨#[]⟩, .bool false] 45) :: boxR (x7 + 1) (.cells #[.string ⟨#[]⟩, .int .i64 0, .int .i64 0, .string ⟨#[]⟩, .bool false] 45) :: boxR x7 (.cells #[.int .i64 4, .int .i64 3, .string ⟨#[]⟩] 33) :: heapR h H3 :: [] := ⟨_, rfl⟩
        have HbaseB := Lib.hid hbaseB
        have KbaseB : Hid (∀ W (Q : List Res), Sep w (Q ++ baseB) W → W.cell? ⟨x7, 0, none⟩ = some (.int .i64 4) ∧ W.cell? ⟨x7, 1, none⟩ = some (.int .i64 3) ∧ W.cell? ⟨x7, 2, none⟩ = some (.string ⟨#[]⟩)) := Lib.hid fun W Q T => by
          rw [hbaseB] at T
          have i0 := T.box (b := x7) (o := .cells #[.int .i64 4, .int .i64 3, .string ⟨#[]⟩] 33) (Q.length + 2) (by rw [List.getElem?_append_right (by omega), Nat.add_sub_cancel_left]; rfl)
          exact ⟨cellAt i0 0 rfl, cellAt i0 1 rfl, cellAt i0 2 rfl⟩
        have KN : Hid (∀ W (Q : List Res), Sep w (Q ++ baseA) W → Calls Try.prog 29 #[.int .i64 3] W fun e W' => e = .returned (.agg #[.int .i64 2, .int .i64 3, .string ⟨#[]⟩]) ∧ Sep w (Q ++ baseA) W') := Lib.hid fun W Q T => by
          exact (num_ok W _).mono fun e W' ⟨e1, e2⟩ => ⟨e1, T.later e2⟩
        have KT : Hid (∀ W (Q : List Res), Sep w (Q ++ baseA) W → Calls Try.prog 20 #[.pointer (some ⟨h, 0, none⟩), .agg #[.int .i64 4, .int .i64 3, .string ⟨#[]⟩], .string (twoS pk), .agg #[.int .i64 2, .int .i64 3, .string ⟨#[]⟩]] W fun e W' => e = .returned (excZ) ∧ Sep w (Q ++ baseB) W') := Lib.hid fun W Q T => by
          rw [HbaseA.out] at T
          rw [HbaseB.out]
          have hh := kf_set T (Q.length + 3) (by rw [List.getElem?_append_right (by omega), Nat.add_sub_cancel_left]; rfl) r3F (numV 3 (by decide)) (twoS pk) (twoS_le pk) FF.out.opens true FV.out.1 H3 HH.out
          try rw [List.set_append_right _ _ (by omega), Nat.add_sub_cancel_left] at hh
          exact hh
        replace S : Sep w baseA wc := by rw [hbaseA]; exact S
        replace S := Lib.hid S
        clear hbaseA hbaseB
        go_upto_region 17 with fail
        go_cut [12] from 52 (fun s12 wx => ∃ qx, s12 = .pointer (some ⟨qx, 0, none⟩) ∧ Sep w (boxR qx (.cells #[.string ⟨#[]⟩, .int .i64 0, .int .i64 0, .string ⟨#[]⟩, .bool false] 45) :: baseB) wx)
        case first =>
          have T0 : Sep w ([] ++ baseA) _ := S.out.drew
          clear S
          as_aux_lemma =>
            refine wp_region_held_drew (S := fun W => W.cell? ⟨x7, 0, none⟩ = some (.int .i64 4) ∧ W.cell? ⟨x7, 1, none⟩ = some (.int .i64 3) ∧ W.cell? ⟨x7, 2, none⟩ = some (.string ⟨#[]⟩)) (by kernel_rfl) (KbaseA.out _ [] T0) (fun hH => ?_)
            refine takeT 0 hH (hy := .inl ⟨by rfl, by (intro w hSw; try obtain ⟨u0, u1, u2⟩ := hSw); (go_simp; try rfl)⟩) (h := ?_)
            simp only [Act.put, List.setIfInBounds_toArray, List.set_cons_zero, List.set_cons_succ]
            refine takeT 1 hH (hy := .inl ⟨by rfl, by (intro w hSw; try obtain ⟨u0, u1, u2⟩ := hSw); (go_simp; try rfl)⟩) (h := ?_)
            simp only [Act.put, List.setIfInBounds_toArray, List.set_cons_zero, List.set_cons_succ]
            refine takeT 2 hH (hy := .inl ⟨by rfl, by (intro w hSw; try obtain ⟨u0, u1, u2⟩ := hSw); (go_simp; try rfl)⟩) (h := ?_)
            simp only [Act.put, List.setIfInBounds_toArray, List.set_cons_zero, List.set_cons_succ]
            refine takeT 3 hH (hy := .inl ⟨by rfl, by (intro w hSw; try obtain ⟨u0, u1, u2⟩ := hSw); (go_simp; try rfl)⟩) (h := ?_)
            simp only [Act.put, List.setIfInBounds_toArray, List.set_cons_zero, List.set_cons_succ]
            refine takeT 4 hH (hy := .inl ⟨by rfl, by (intro w hSw; try obtain ⟨u0, u1, u2⟩ := hSw); (go_simp; try rfl)⟩) (h := ?_)
            simp only [Act.put, List.setIfInBounds_toArray, List.set_cons_zero, List.set_cons_succ]
            refine takeT 5 hH (hy := .inl ⟨by rfl, by (intro w hSw; try obtain ⟨u0, u1, u2⟩ := hSw); (go_simp; try rfl)⟩) (h := ?_)
            simp only [Act.put, List.setIfInBounds_toArray, List.set_cons_zero, List.set_cons_succ]
            refine takeT 6 hH (hy := .inl ⟨by rfl, by (intro w hSw; try obtain ⟨u0, u1, u2⟩ := hSw); (go_simp; try rfl)⟩) (h := ?_)
            simp only [Act.put, List.setIfInBounds_toArray, List.set_cons_zero, List.set_cons_succ]
            refine readyT [7, 9, 11] ?_
            refine consT (fun K hK => ?_) (consT (fun K hK => ?_) (consT (fun K hK => ?_) AllReadyH.nil))
            · go_simp
              have T1 : Sep w ([boxR _ (.cells #[.int .u8 kb, .int .u8 kc] 5)] ++ baseA) _ := Sep.alloc T0 (.cells #[.int .u8 kb, .int .u8 kc] 5)
              try simp only [size_drew, World.size_alloc] at T1
              clear hH
              refine hK.out _ _ (KbaseA.out _ [_] T1) (fun hH => ?_)
              clear hK K
              refine readyT [8, 9, 11] ?_
              refine consT (fun K hK => ?_) (consT (fun K hK => ?_) (consT (fun K hK => ?_) AllReadyH.nil))
              · have hz := T1.box 0 rfl
                have z0 := cellAt hz 0 (v := .int .u8 kb) rfl
                have z1 := cellAt hz 1 (v := .int .u8 kc) rfl
                have KC := name_ok _ _ pk 2 kb kc HB.out.1 HB.out.2 z0 z1
                try simp only [World.alloc_drew] at KC
                go_simp
                clear hz z0 z1 KC
                clear hH
                refine hK.out _ _ (KbaseA.out _ [_] T1) (fun hH => ?_)
                clear hK K
                refine readyT [9, 11] ?_
                refine consT (fun K hK => ?_) (consT (fun K hK => ?_) AllReadyH.nil)
                · go_simp
                  go_wp2_with (go_at_call 29; refine (KN.out _ [_] T1).mono ?_; rintro e w3 ⟨rfl, T3⟩)
                  clear hH
                  refine hK.out _ _ (KbaseA.out _ [_] T3) (fun hH => ?_)
                  clear hK K
                  refine readyT [10, 11] ?_
                  refine consT (fun K hK => ?_) (consT (fun K hK => ?_) AllReadyH.nil)
                  · go_simp
                    go_wp2_with (go_at_call 20; refine (KT.out _ [_] T3).mono ?_; rintro e w4 ⟨rfl, T4⟩)
                    clear hH
                    refine hK.out _ _ (KbaseB.out _ [_] T4) (fun hH => ?_)
                    clear hK K
                    refine readyT [11] ?_
                    refine consT (fun K hK => ?_) AllReadyH.nil
                    go_simp
                    have T5 : Sep w ([boxR _ (.cells #[.string ⟨#[]⟩, .int .i64 0, .int .i64 0, .string ⟨#[]⟩, .bool false] 45), boxR _ (.cells #[.int .u8 kb, .int .u8 kc] 5)] ++ baseB) _ := Sep.alloc T4 (.cells #[.string ⟨#[]⟩, .int .i64 0, .int .i64 0, .string ⟨#[]⟩, .bool false] 45)
                    try simp only [size_drew, World.size_alloc] at T5
                    clear hH
                    refine hK.out _ _ (KbaseB.out _ [_, _] T5) (fun hH => ?_)
                    clear hK K
                    refine readyT [12] ?_
                    refine consT (fun K hK => ?_) AllReadyH.nil
                    have hz := T5.box 0 rfl
                    have z0 := cellAt hz 0 (v := .string ⟨#[]⟩) rfl
                    have z1 := cellAt hz 1 (v := .int .i64 0) rfl
                    have z2 := cellAt hz 2 (v := .int .i64 0) rfl
                    have z3 := cellAt hz 3 (v := .string ⟨#[]⟩) rfl
                    have z4 := cellAt hz 4 (v := .bool false) rfl
                    have z5 := frozenAt hz 0
                    have z6 := frozenAt hz 1
                    have z7 := frozenAt hz 2
                    have z8 := frozenAt hz 3
                    have z9 := frozenAt hz 4
                    go_simp
                    clear hz z0 z1 z2 z3 z4 z5 z6 z7 z8 z9
                    clear hH
                    first | (have T6 : Sep w ([boxR _ (.cells #[.string ⟨#[]⟩, .int .i64 0, .int .i64 0, .string ⟨#[]⟩, .bool false] 45), boxR _ (.cells #[.int .u8 kb, .int .u8 kc] 5)] ++ baseB) _ := (Sep.alloc T4 (.cells #[.string ⟨#[]⟩, .int .i64 0, .int .i64 0, .string ⟨#[]⟩, .bool false] 45)); (try simp only [size_drew, World.size_alloc] at T6); refine hK.out _ _ (KbaseB.out _ [_, _] T6) (fun hH => ?_)) | (have T6 : Sep w ([boxR _ (.cells #[.string ⟨#[]⟩, .int .i64 0, .int .i64 0, .string ⟨#[]⟩, .bool false] 45), boxR _ (.cells #[.int .u8 kb, .int .u8 kc] 5)] ++ baseB) _ := (Sep.setBox (cs := #[.string ⟨#[]⟩, .int .i64 0, .int .i64 0, .string ⟨#[]⟩, .bool false]) (t := 45) (Sep.setBox (cs := #[.string ⟨#[]⟩, .int .i64 0, .int .i64 0, .string ⟨#[]⟩, .bool false]) (t := 45) (Sep.setBox (cs := #[.string ⟨#[]⟩, .int .i64 0, .int .i64 0, .string ⟨#[]⟩, .bool false]) (t := 45) (Sep.setBox (cs := #[.string ⟨#[]⟩, .int .i64 0, .int .i64 0, .string ⟨#[]⟩, .bool false]) (t := 45) (Sep.setBox (cs := #[.string ⟨#[]⟩, .int .i64 0, .int .i64 0, .string ⟨#[]⟩, .bool false]) (t := 45) T5 0 rfl 0 (.string ⟨#[]⟩)) 0 rfl 1 (.int .i64 0)) 0 rfl 2 (.int .i64 0)) 0 rfl 3 (.string ⟨#[]⟩)) 0 rfl 4 (.bool false)); (try simp only [size_drew, World.size_alloc] at T6); refine hK.out _ _ (KbaseB.out _ [_, _] T6) (fun hH => ?_))
                    clear hK K
                    refine wpAnyH_done (by kernel_rfl) ?_ _
                    as_aux_lemma =>
                      go_wp2_with fail
                      go_meet
                      exact ⟨_, rfl, Sep.one T6 0 rfl⟩
                  · go_simp
                    have T7 : Sep w ([boxR _ (.cells #[.string ⟨#[]⟩, .int .i64 0, .int .i64 0, .string ⟨#[]⟩, .bool false] 45), boxR _ (.cells #[.int .u8 kb, .int .u8 kc] 5)] ++ baseA) _ := Sep.alloc T3 (.cells #[.string ⟨#[]⟩, .int .i64 0, .int .i64 0, .string ⟨#[]⟩, .bool false] 45)
                    try simp only [size_drew, World.size_alloc] at T7
                    clear hH
                    refine hK.out _ _ (KbaseA.out _ [_, _] T7) (fun hH => ?_)
                    clear hK K
                    refine readyT [10] ?_
                    refine consT (fun K hK => ?_) AllReadyH.nil
                    go_simp
                    go_wp2_with (go_at_call 20; refine (KT.out _ [_, _] T7).mono ?_; rintro e w8 ⟨rfl, T8⟩)
                    clear hH
                    refine hK.out _ _ (KbaseB.out _ [_, _] T8) (fun hH => ?_)
                    clear hK K
                    refine readyT [12] ?_
                    refine consT (fun K hK => ?_) AllReadyH.nil
                    have hz := T8.box 0 rfl
                    have z0 := cellAt hz 0 (v := .string ⟨#[]⟩) rfl
                    have z1 := cellAt hz 1 (v := .int .i64 0) rfl
                    have z2 := cellAt hz 2 (v := .int .i64 0) rfl
                    have z3 := cellAt hz 3 (v := .string ⟨#[]⟩) rfl
                    have z4 := cellAt hz 4 (v := .bool false) rfl
                    have z5 := frozenAt hz 0
                    have z6 := frozenAt hz 1
                    have z7 := frozenAt hz 2
                    have z8 := frozenAt hz 3
                    have z9 := frozenAt hz 4
                    go_simp
                    clear hz z0 z1 z2 z3 z4 z5 z6 z7 z8 z9
                    clear hH
                    have T9 : Sep w ([boxR _ (.cells #[.string ⟨#[]⟩, .int .i64 0, .int .i64 0, .string ⟨#[]⟩, .bool false] 45), boxR _ (.cells #[.int .u8 kb, .int .u8 kc] 5)] ++ baseB) _ := (Sep.setBox (cs := #[.string ⟨#[]⟩, .int .i64 0, .int .i64 0, .string ⟨#[]⟩, .bool false]) (t := 45) (Sep.setBox (cs := #[.string ⟨#[]⟩, .int .i64 0, .int .i64 0, .string ⟨#[]⟩, .bool false]) (t := 45) (Sep.setBox (cs := #[.string ⟨#[]⟩, .int .i64 0, .int .i64 0, .string ⟨#[]⟩, .bool false]) (t := 45) (Sep.setBox (cs := #[.string ⟨#[]⟩, .int .i64 0, .int .i64 0, .string ⟨#[]⟩, .bool false]) (t := 45) (Sep.setBox (cs := #[.string ⟨#[]⟩, .int .i64 0, .int .i64 0, .string ⟨#[]⟩, .bool false]) (t := 45) T8 0 rfl 0 (.string ⟨#[]⟩)) 0 rfl 1 (.int .i64 0)) 0 rfl 2 (.int .i64 0)) 0 rfl 3 (.string ⟨#[]⟩)) 0 rfl 4 (.bool false))
                    try simp only [size_drew, World.size_alloc] at T9
                    refine hK.out _ _ (KbaseB.out _ [_, _] T9) (fun hH => ?_)
                    clear hK K
                    refine wpAnyH_done (by kernel_rfl) ?_ _
                    as_aux_lemma =>
                      go_wp2_with fail
                      go_meet
                      exact ⟨_, rfl, Sep.one T9 0 rfl⟩
                · go_simp
                  have T10 : Sep w ([boxR _ (.cells #[.string ⟨#[]⟩, .int .i64 0, .int .i64 0, .string ⟨#[]⟩, .bool false] 45), boxR _ (.cells #[.int .u8 kb, .int .u8 kc] 5)] ++ baseA) _ := Sep.alloc T1 (.cells #[.string ⟨#[]⟩, .int .i64 0, .int .i64 0, .string ⟨#[]⟩, .bool false] 45)
                  try simp only [size_drew, World.size_alloc] at T10
                  clear hH
                  refine hK.out _ _ (KbaseA.out _ [_, _] T10) (fun hH => ?_)
                  clear hK K
                  refine readyT [9] ?_
                  refine consT (fun K hK => ?_) AllReadyH.nil
                  go_simp
                  go_wp2_with (go_at_call 29; refine (KN.out _ [_, _] T10).mono ?_; rintro e w11 ⟨rfl, T11⟩)
                  clear hH
                  refine hK.out _ _ (KbaseA.out _ [_, _] T11) (fun hH => ?_)
                  clear hK K
                  refine readyT [10] ?_
                  refine consT (fun K hK => ?_) AllReadyH.nil
                  go_simp
                  go_wp2_with (go_at_call 20; refine (KT.out _ [_, _] T11).mono ?_; rintro e w12 ⟨rfl, T12⟩)
                  clear hH
                  refine hK.out _ _ (KbaseB.out _ [_, _] T12) (fun hH => ?_)
                  clear hK K
                  refine readyT [12] ?_
                  refine consT (fun K hK => ?_) AllReadyH.nil
                  have hz := T12.box 0 rfl
                  have z0 := cellAt hz 0 (v := .string ⟨#[]⟩) rfl
                  have z1 := cellAt hz 1 (v := .int .i64 0) rfl
                  have z2 := cellAt hz 2 (v := .int .i64 0) rfl
                  have z3 := cellAt hz 3 (v := .string ⟨#[]⟩) rfl
                  have z4 := cellAt hz 4 (v := .bool false) rfl
                  have z5 := frozenAt hz 0
                  have z6 := frozenAt hz 1
                  have z7 := frozenAt hz 2
                  have z8 := frozenAt hz 3
                  have z9 := frozenAt hz 4
                  go_simp
                  clear hz z0 z1 z2 z3 z4 z5 z6 z7 z8 z9
                  clear hH
                  have T13 : Sep w ([boxR _ (.cells #[.string ⟨#[]⟩, .int .i64 0, .int .i64 0, .string ⟨#[]⟩, .bool false] 45), boxR _ (.cells #[.int .u8 kb, .int .u8 kc] 5)] ++ baseB) _ := (Sep.setBox (cs := #[.string ⟨#[]⟩, .int .i64 0, .int .i64 0, .string ⟨#[]⟩, .bool false]) (t := 45) (Sep.setBox (cs := #[.string ⟨#[]⟩, .int .i64 0, .int .i64 0, .string ⟨#[]⟩, .bool false]) (t := 45) (Sep.setBox (cs := #[.string ⟨#[]⟩, .int .i64 0, .int .i64 0, .string ⟨#[]⟩, .bool false]) (t := 45) (Sep.setBox (cs := #[.string ⟨#[]⟩, .int .i64 0, .int .i64 0, .string ⟨#[]⟩, .bool false]) (t := 45) (Sep.setBox (cs := #[.string ⟨#[]⟩, .int .i64 0, .int .i64 0, .string ⟨#[]⟩, .bool false]) (t := 45) T12 0 rfl 0 (.string ⟨#[]⟩)) 0 rfl 1 (.int .i64 0)) 0 rfl 2 (.int .i64 0)) 0 rfl 3 (.string ⟨#[]⟩)) 0 rfl 4 (.bool false))
                  try simp only [size_drew, World.size_alloc] at T13
                  refine hK.out _ _ (KbaseB.out _ [_, _] T13) (fun hH => ?_)
                  clear hK K
                  refine wpAnyH_done (by kernel_rfl) ?_ _
                  as_aux_lemma =>
                    go_wp2_with fail
                    go_meet
                    exact ⟨_, rfl, Sep.one T13 0 rfl⟩
              · go_simp
                go_wp2_with (go_at_call 29; refine (KN.out _ [_] T1).mono ?_; rintro e w14 ⟨rfl, T14⟩)
                clear hH
                refine hK.out _ _ (KbaseA.out _ [_] T14) (fun hH => ?_)
                clear hK K
                refine readyT [8, 11] ?_
                refine consT (fun K hK => ?_) (consT (fun K hK => ?_) AllReadyH.nil)
                · have hz := T14.box 0 rfl
                  have z0 := cellAt hz 0 (v := .int .u8 kb) rfl
                  have z1 := cellAt hz 1 (v := .int .u8 kc) rfl
                  have KC := name_ok _ _ pk 2 kb kc HB.out.1 HB.out.2 z0 z1
                  try simp only [World.alloc_drew] at KC
                  go_simp
                  clear hz z0 z1 KC
                  clear hH
                  refine hK.out _ _ (KbaseA.out _ [_] T14) (fun hH => ?_)
                  clear hK K
                  refine readyT [10, 11] ?_
                  refine consT (fun K hK => ?_) (consT (fun K hK => ?_) AllReadyH.nil)
                  · go_simp
                    go_wp2_with (go_at_call 20; refine (KT.out _ [_] T14).mono ?_; rintro e w16 ⟨rfl, T16⟩)
                    clear hH
                    refine hK.out _ _ (KbaseB.out _ [_] T16) (fun hH => ?_)
                    clear hK K
                    refine readyT [11] ?_
                    refine consT (fun K hK => ?_) AllReadyH.nil
                    go_simp
                    have T17 : Sep w ([boxR _ (.cells #[.string ⟨#[]⟩, .int .i64 0, .int .i64 0, .string ⟨#[]⟩, .bool false] 45), boxR _ (.cells #[.int .u8 kb, .int .u8 kc] 5)] ++ baseB) _ := Sep.alloc T16 (.cells #[.string ⟨#[]⟩, .int .i64 0, .int .i64 0, .string ⟨#[]⟩, .bool false] 45)
                    try simp only [size_drew, World.size_alloc] at T17
                    clear hH
                    refine hK.out _ _ (KbaseB.out _ [_, _] T17) (fun hH => ?_)
                    clear hK K
                    refine readyT [12] ?_
                    refine consT (fun K hK => ?_) AllReadyH.nil
                    have hz := T17.box 0 rfl
                    have z0 := cellAt hz 0 (v := .string ⟨#[]⟩) rfl
                    have z1 := cellAt hz 1 (v := .int .i64 0) rfl
                    have z2 := cellAt hz 2 (v := .int .i64 0) rfl
                    have z3 := cellAt hz 3 (v := .string ⟨#[]⟩) rfl
                    have z4 := cellAt hz 4 (v := .bool false) rfl
                    have z5 := frozenAt hz 0
                    have z6 := frozenAt hz 1
                    have z7 := frozenAt hz 2
                    have z8 := frozenAt hz 3
                    have z9 := frozenAt hz 4
                    go_simp
                    clear hz z0 z1 z2 z3 z4 z5 z6 z7 z8 z9
                    clear hH
                    first | (have T18 : Sep w ([boxR _ (.cells #[.string ⟨#[]⟩, .int .i64 0, .int .i64 0, .string ⟨#[]⟩, .bool false] 45), boxR _ (.cells #[.int .u8 kb, .int .u8 kc] 5)] ++ baseB) _ := (Sep.alloc T16 (.cells #[.string ⟨#[]⟩, .int .i64 0, .int .i64 0, .string ⟨#[]⟩, .bool false] 45)); (try simp only [size_drew, World.size_alloc] at T18); refine hK.out _ _ (KbaseB.out _ [_, _] T18) (fun hH => ?_)) | (have T18 : Sep w ([boxR _ (.cells #[.string ⟨#[]⟩, .int .i64 0, .int .i64 0, .string ⟨#[]⟩, .bool false] 45), boxR _ (.cells #[.int .u8 kb, .int .u8 kc] 5)] ++ baseB) _ := (Sep.setBox (cs := #[.string ⟨#[]⟩, .int .i64 0, .int .i64 0, .string ⟨#[]⟩, .bool false]) (t := 45) (Sep.setBox (cs := #[.string ⟨#[]⟩, .int .i64 0, .int .i64 0, .string ⟨#[]⟩, .bool false]) (t := 45) (Sep.setBox (cs := #[.string ⟨#[]⟩, .int .i64 0, .int .i64 0, .string ⟨#[]⟩, .bool false]) (t := 45) (Sep.setBox (cs := #[.string ⟨#[]⟩, .int .i64 0, .int .i64 0, .string ⟨#[]⟩, .bool false]) (t := 45) (Sep.setBox (cs := #[.string ⟨#[]⟩, .int .i64 0, .int .i64 0, .string ⟨#[]⟩, .bool false]) (t := 45) T17 0 rfl 0 (.string ⟨#[]⟩)) 0 rfl 1 (.int .i64 0)) 0 rfl 2 (.int .i64 0)) 0 rfl 3 (.string ⟨#[]⟩)) 0 rfl 4 (.bool false)); (try simp only [size_drew, World.size_alloc] at T18); refine hK.out _ _ (KbaseB.out _ [_, _] T18) (fun hH => ?_))
                    clear hK K
                    refine wpAnyH_done (by kernel_rfl) ?_ _
                    as_aux_lemma =>
                      go_wp2_with fail
                      go_meet
                      exact ⟨_, rfl, Sep.one T18 0 rfl⟩
                  · go_simp
                    have T19 : Sep w ([boxR _ (.cells #[.string ⟨#[]⟩, .int .i64 0, .int .i64 0, .string ⟨#[]⟩, .bool false] 45), boxR _ (.cells #[.int .u8 kb, .int .u8 kc] 5)] ++ baseA) _ := Sep.alloc T14 (.cells #[.string ⟨#[]⟩, .int .i64 0, .int .i64 0, .string ⟨#[]⟩, .bool false] 45)
                    try simp only [size_drew, World.size_alloc] at T19
                    clear hH
                    refine hK.out _ _ (KbaseA.out _ [_, _] T19) (fun hH => ?_)
                    clear hK K
                    refine readyT [10] ?_
                    refine consT (fun K hK => ?_) AllReadyH.nil
                    go_simp
                    go_wp2_with (go_at_call 20; refine (KT.out _ [_, _] T19).mono ?_; rintro e w20 ⟨rfl, T20⟩)
                    clear hH
                    refine hK.out _ _ (KbaseB.out _ [_, _] T20) (fun hH => ?_)
                    clear hK K
                    refine readyT [12] ?_
                    refine consT (fun K hK => ?_) AllReadyH.nil
                    have hz := T20.box 0 rfl
                    have z0 := cellAt hz 0 (v := .string ⟨#[]⟩) rfl
                    have z1 := cellAt hz 1 (v := .int .i64 0) rfl
                    have z2 := cellAt hz 2 (v := .int .i64 0) rfl
                    have z3 := cellAt hz 3 (v := .string ⟨#[]⟩) rfl
                    have z4 := cellAt hz 4 (v := .bool false) rfl
                    have z5 := frozenAt hz 0
                    have z6 := frozenAt hz 1
                    have z7 := frozenAt hz 2
                    have z8 := frozenAt hz 3
                    have z9 := frozenAt hz 4
                    go_simp
                    clear hz z0 z1 z2 z3 z4 z5 z6 z7 z8 z9
                    clear hH
                    have T21 : Sep w ([boxR _ (.cells #[.string ⟨#[]⟩, .int .i64 0, .int .i64 0, .string ⟨#[]⟩, .bool false] 45), boxR _ (.cells #[.int .u8 kb, .int .u8 kc] 5)] ++ baseB) _ := (Sep.setBox (cs := #[.string ⟨#[]⟩, .int .i64 0, .int .i64 0, .string ⟨#[]⟩, .bool false]) (t := 45) (Sep.setBox (cs := #[.string ⟨#[]⟩, .int .i64 0, .int .i64 0, .string ⟨#[]⟩, .bool false]) (t := 45) (Sep.setBox (cs := #[.string ⟨#[]⟩, .int .i64 0, .int .i64 0, .string ⟨#[]⟩, .bool false]) (t := 45) (Sep.setBox (cs := #[.string ⟨#[]⟩, .int .i64 0, .int .i64 0, .string ⟨#[]⟩, .bool false]) (t := 45) (Sep.setBox (cs := #[.string ⟨#[]⟩, .int .i64 0, .int .i64 0, .string ⟨#[]⟩, .bool false]) (t := 45) T20 0 rfl 0 (.string ⟨#[]⟩)) 0 rfl 1 (.int .i64 0)) 0 rfl 2 (.int .i64 0)) 0 rfl 3 (.string ⟨#[]⟩)) 0 rfl 4 (.bool false))
                    try simp only [size_drew, World.size_alloc] at T21
                    refine hK.out _ _ (KbaseB.out _ [_, _] T21) (fun hH => ?_)
                    clear hK K
                    refine wpAnyH_done (by kernel_rfl) ?_ _
                    as_aux_lemma =>
                      go_wp2_with fail
                      go_meet
                      exact ⟨_, rfl, Sep.one T21 0 rfl⟩
                · go_simp
                  have T22 : Sep w ([boxR _ (.cells #[.string ⟨#[]⟩, .int .i64 0, .int .i64 0, .string ⟨#[]⟩, .bool false] 45), boxR _ (.cells #[.int .u8 kb, .int .u8 kc] 5)] ++ baseA) _ := Sep.alloc T14 (.cells #[.string ⟨#[]⟩, .int .i64 0, .int .i64 0, .string ⟨#[]⟩, .bool false] 45)
                  try simp only [size_drew, World.size_alloc] at T22
                  clear hH
                  refine hK.out _ _ (KbaseA.out _ [_, _] T22) (fun hH => ?_)
                  clear hK K
                  refine readyT [8] ?_
                  refine consT (fun K hK => ?_) AllReadyH.nil
                  have hz := T22.box 1 rfl
                  have z0 := cellAt hz 0 (v := .int .u8 kb) rfl
                  have z1 := cellAt hz 1 (v := .int .u8 kc) rfl
                  have KC := name_ok _ _ pk 2 kb kc HB.out.1 HB.out.2 z0 z1
                  try simp only [World.alloc_drew] at KC
                  go_simp
                  clear hz z0 z1 KC
                  clear hH
                  refine hK.out _ _ (KbaseA.out _ [_, _] T22) (fun hH => ?_)
                  clear hK K
                  refine readyT [10] ?_
                  refine consT (fun K hK => ?_) AllReadyH.nil
                  go_simp
                  go_wp2_with (go_at_call 20; refine (KT.out _ [_, _] T22).mono ?_; rintro e w24 ⟨rfl, T24⟩)
                  clear hH
                  refine hK.out _ _ (KbaseB.out _ [_, _] T24) (fun hH => ?_)
                  clear hK K
                  refine readyT [12] ?_
                  refine consT (fun K hK => ?_) AllReadyH.nil
                  have hz := T24.box 0 rfl
                  have z0 := cellAt hz 0 (v := .string ⟨#[]⟩) rfl
                  have z1 := cellAt hz 1 (v := .int .i64 0) rfl
                  have z2 := cellAt hz 2 (v := .int .i64 0) rfl
                  have z3 := cellAt hz 3 (v := .string ⟨#[]⟩) rfl
                  have z4 := cellAt hz 4 (v := .bool false) rfl
                  have z5 := frozenAt hz 0
                  have z6 := frozenAt hz 1
                  have z7 := frozenAt hz 2
                  have z8 := frozenAt hz 3
                  have z9 := frozenAt hz 4
                  go_simp
                  clear hz z0 z1 z2 z3 z4 z5 z6 z7 z8 z9
                  clear hH
                  have T25 : Sep w ([boxR _ (.cells #[.string ⟨#[]⟩, .int .i64 0, .int .i64 0, .string ⟨#[]⟩, .bool false] 45), boxR _ (.cells #[.int .u8 kb, .int .u8 kc] 5)] ++ baseB) _ := (Sep.setBox (cs := #[.string ⟨#[]⟩, .int .i64 0, .int .i64 0, .string ⟨#[]⟩, .bool false]) (t := 45) (Sep.setBox (cs := #[.string ⟨#[]⟩, .int .i64 0, .int .i64 0, .string ⟨#[]⟩, .bool false]) (t := 45) (Sep.setBox (cs := #[.string ⟨#[]⟩, .int .i64 0, .int .i64 0, .string ⟨#[]⟩, .bool false]) (t := 45) (Sep.setBox (cs := #[.string ⟨#[]⟩, .int .i64 0, .int .i64 0, .string ⟨#[]⟩, .bool false]) (t := 45) (Sep.setBox (cs := #[.string ⟨#[]⟩, .int .i64 0, .int .i64 0, .string ⟨#[]⟩, .bool false]) (t := 45) T24 0 rfl 0 (.string ⟨#[]⟩)) 0 rfl 1 (.int .i64 0)) 0 rfl 2 (.int .i64 0)) 0 rfl 3 (.string ⟨#[]⟩)) 0 rfl 4 (.bool false))
                  try simp only [size_drew, World.size_alloc] at T25
                  refine hK.out _ _ (KbaseB.out _ [_, _] T25) (fun hH => ?_)
                  clear hK K
                  refine wpAnyH_done (by kernel_rfl) ?_ _
                  as_aux_lemma =>
                    go_wp2_with fail
                    go_meet
                    exact ⟨_, rfl, Sep.one T25 0 rfl⟩
              · go_simp
                have T26 : Sep w ([boxR _ (.cells #[.string ⟨#[]⟩, .int .i64 0, .int .i64 0, .string ⟨#[]⟩, .bool false] 45), boxR _ (.cells #[.int .u8 kb, .int .u8 kc] 5)] ++ baseA) _ := Sep.alloc T1 (.cells #[.string ⟨#[]⟩, .int .i64 0, .int .i64 0, .string ⟨#[]⟩, .bool false] 45)
                try simp only [size_drew, World.size_alloc] at T26
                clear hH
                refine hK.out _ _ (KbaseA.out _ [_, _] T26) (fun hH => ?_)
                clear hK K
                refine readyT [8, 9] ?_
                refine consT (fun K hK => ?_) (consT (fun K hK => ?_) AllReadyH.nil)
                · have hz := T26.box 1 rfl
                  have z0 := cellAt hz 0 (v := .int .u8 kb) rfl
                  have z1 := cellAt hz 1 (v := .int .u8 kc) rfl
                  have KC := name_ok _ _ pk 2 kb kc HB.out.1 HB.out.2 z0 z1
                  try simp only [World.alloc_drew] at KC
                  go_simp
                  clear hz z0 z1 KC
                  clear hH
                  refine hK.out _ _ (KbaseA.out _ [_, _] T26) (fun hH => ?_)
                  clear hK K
                  refine readyT [9] ?_
                  refine consT (fun K hK => ?_) AllReadyH.nil
                  go_simp
                  go_wp2_with (go_at_call 29; refine (KN.out _ [_, _] T26).mono ?_; rintro e w28 ⟨rfl, T28⟩)
                  clear hH
                  refine hK.out _ _ (KbaseA.out _ [_, _] T28) (fun hH => ?_)
                  clear hK K
                  refine readyT [10] ?_
                  refine consT (fun K hK => ?_) AllReadyH.nil
                  go_simp
                  go_wp2_with (go_at_call 20; refine (KT.out _ [_, _] T28).mono ?_; rintro e w29 ⟨rfl, T29⟩)
                  clear hH
                  refine hK.out _ _ (KbaseB.out _ [_, _] T29) (fun hH => ?_)
                  clear hK K
                  refine readyT [12] ?_
                  refine consT (fun K hK => ?_) AllReadyH.nil
                  have hz := T29.box 0 rfl
                  have z0 := cellAt hz 0 (v := .string ⟨#[]⟩) rfl
                  have z1 := cellAt hz 1 (v := .int .i64 0) rfl
                  have z2 := cellAt hz 2 (v := .int .i64 0) rfl
                  have z3 := cellAt hz 3 (v := .string ⟨#[]⟩) rfl
                  have z4 := cellAt hz 4 (v := .bool false) rfl
                  have z5 := frozenAt hz 0
                  have z6 := frozenAt hz 1
                  have z7 := frozenAt hz 2
                  have z8 := frozenAt hz 3
                  have z9 := frozenAt hz 4
                  go_simp
                  clear hz z0 z1 z2 z3 z4 z5 z6 z7 z8 z9
                  clear hH
                  have T30 : Sep w ([boxR _ (.cells #[.string ⟨#[]⟩, .int .i64 0, .int .i64 0, .string ⟨#[]⟩, .bool false] 45), boxR _ (.cells #[.int .u8 kb, .int .u8 kc] 5)] ++ baseB) _ := (Sep.setBox (cs := #[.string ⟨#[]⟩, .int .i64 0, .int .i64 0, .string ⟨#[]⟩, .bool false]) (t := 45) (Sep.setBox (cs := #[.string ⟨#[]⟩, .int .i64 0, .int .i64 0, .string ⟨#[]⟩, .bool false]) (t := 45) (Sep.setBox (cs := #[.string ⟨#[]⟩, .int .i64 0, .int .i64 0, .string ⟨#[]⟩, .bool false]) (t := 45) (Sep.setBox (cs := #[.string ⟨#[]⟩, .int .i64 0, .int .i64 0, .string ⟨#[]⟩, .bool false]) (t := 45) (Sep.setBox (cs := #[.string ⟨#[]⟩, .int .i64 0, .int .i64 0, .string ⟨#[]⟩, .bool false]) (t := 45) T29 0 rfl 0 (.string ⟨#[]⟩)) 0 rfl 1 (.int .i64 0)) 0 rfl 2 (.int .i64 0)) 0 rfl 3 (.string ⟨#[]⟩)) 0 rfl 4 (.bool false))
                  try simp only [size_drew, World.size_alloc] at T30
                  refine hK.out _ _ (KbaseB.out _ [_, _] T30) (fun hH => ?_)
                  clear hK K
                  refine wpAnyH_done (by kernel_rfl) ?_ _
                  as_aux_lemma =>
                    go_wp2_with fail
                    go_meet
                    exact ⟨_, rfl, Sep.one T30 0 rfl⟩
                · go_simp
                  go_wp2_with (go_at_call 29; refine (KN.out _ [_, _] T26).mono ?_; rintro e w31 ⟨rfl, T31⟩)
                  clear hH
                  refine hK.out _ _ (KbaseA.out _ [_, _] T31) (fun hH => ?_)
                  clear hK K
                  refine readyT [8] ?_
                  refine consT (fun K hK => ?_) AllReadyH.nil
                  have hz := T31.box 1 rfl
                  have z0 := cellAt hz 0 (v := .int .u8 kb) rfl
                  have z1 := cellAt hz 1 (v := .int .u8 kc) rfl
                  have KC := name_ok _ _ pk 2 kb kc HB.out.1 HB.out.2 z0 z1
                  try simp only [World.alloc_drew] at KC
                  go_simp
                  clear hz z0 z1 KC
                  clear hH
                  refine hK.out _ _ (KbaseA.out _ [_, _] T31) (fun hH => ?_)
                  clear hK K
                  refine readyT [10] ?_
                  refine consT (fun K hK => ?_) AllReadyH.nil
                  go_simp
                  go_wp2_with (go_at_call 20; refine (KT.out _ [_, _] T31).mono ?_; rintro e w33 ⟨rfl, T33⟩)
                  clear hH
                  refine hK.out _ _ (KbaseB.out _ [_, _] T33) (fun hH => ?_)
                  clear hK K
                  refine readyT [12] ?_
                  refine consT (fun K hK => ?_) AllReadyH.nil
                  have hz := T33.box 0 rfl
                  have z0 := cellAt hz 0 (v := .string ⟨#[]⟩) rfl
                  have z1 := cellAt hz 1 (v := .int .i64 0) rfl
                  have z2 := cellAt hz 2 (v := .int .i64 0) rfl
                  have z3 := cellAt hz 3 (v := .string ⟨#[]⟩) rfl
                  have z4 := cellAt hz 4 (v := .bool false) rfl
                  have z5 := frozenAt hz 0
                  have z6 := frozenAt hz 1
                  have z7 := frozenAt hz 2
                  have z8 := frozenAt hz 3
                  have z9 := frozenAt hz 4
                  go_simp
                  clear hz z0 z1 z2 z3 z4 z5 z6 z7 z8 z9
                  clear hH
                  have T34 : Sep w ([boxR _ (.cells #[.string ⟨#[]⟩, .int .i64 0, .int .i64 0, .string ⟨#[]⟩, .bool false] 45), boxR _ (.cells #[.int .u8 kb, .int .u8 kc] 5)] ++ baseB) _ := (Sep.setBox (cs := #[.string ⟨#[]⟩, .int .i64 0, .int .i64 0, .string ⟨#[]⟩, .bool false]) (t := 45) (Sep.setBox (cs := #[.string ⟨#[]⟩, .int .i64 0, .int .i64 0, .string ⟨#[]⟩, .bool false]) (t := 45) (Sep.setBox (cs := #[.string ⟨#[]⟩, .int .i64 0, .int .i64 0, .string ⟨#[]⟩, .bool false]) (t := 45) (Sep.setBox (cs := #[.string ⟨#[]⟩, .int .i64 0, .int .i64 0, .string ⟨#[]⟩, .bool false]) (t := 45) (Sep.setBox (cs := #[.string ⟨#[]⟩, .int .i64 0, .int .i64 0, .string ⟨#[]⟩, .bool false]) (t := 45) T33 0 rfl 0 (.string ⟨#[]⟩)) 0 rfl 1 (.int .i64 0)) 0 rfl 2 (.int .i64 0)) 0 rfl 3 (.string ⟨#[]⟩)) 0 rfl 4 (.bool false))
                  try simp only [size_drew, World.size_alloc] at T34
                  refine hK.out _ _ (KbaseB.out _ [_, _] T34) (fun hH => ?_)
                  clear hK K
                  refine wpAnyH_done (by kernel_rfl) ?_ _
                  as_aux_lemma =>
                    go_wp2_with fail
                    go_meet
                    exact ⟨_, rfl, Sep.one T34 0 rfl⟩
            · go_simp
              go_wp2_with (go_at_call 29; refine (KN.out _ [] T0).mono ?_; rintro e w35 ⟨rfl, T35⟩)
              clear hH
              refine hK.out _ _ (KbaseA.out _ [] T35) (fun hH => ?_)
              clear hK K
              refine readyT [7, 11] ?_
              refine consT (fun K hK => ?_) (consT (fun K hK => ?_) AllReadyH.nil)
              · go_simp
                have T36 : Sep w ([boxR _ (.cells #[.int .u8 kb, .int .u8 kc] 5)] ++ baseA) _ := Sep.alloc T35 (.cells #[.int .u8 kb, .int .u8 kc] 5)
                try simp only [size_drew, World.size_alloc] at T36
                clear hH
                refine hK.out _ _ (KbaseA.out _ [_] T36) (fun hH => ?_)
                clear hK K
                refine readyT [8, 11] ?_
                refine consT (fun K hK => ?_) (consT (fun K hK => ?_) AllReadyH.nil)
                · have hz := T36.box 0 rfl
                  have z0 := cellAt hz 0 (v := .int .u8 kb) rfl
                  have z1 := cellAt hz 1 (v := .int .u8 kc) rfl
                  have KC := name_ok _ _ pk 2 kb kc HB.out.1 HB.out.2 z0 z1
                  try simp only [World.alloc_drew] at KC
                  go_simp
                  clear hz z0 z1 KC
                  clear hH
                  refine hK.out _ _ (KbaseA.out _ [_] T36) (fun hH => ?_)
                  clear hK K
                  refine readyT [10, 11] ?_
                  refine consT (fun K hK => ?_) (consT (fun K hK => ?_) AllReadyH.nil)
                  · go_simp
                    go_wp2_with (go_at_call 20; refine (KT.out _ [_] T36).mono ?_; rintro e w38 ⟨rfl, T38⟩)
                    clear hH
                    refine hK.out _ _ (KbaseB.out _ [_] T38) (fun hH => ?_)
                    clear hK K
                    refine readyT [11] ?_
                    refine consT (fun K hK => ?_) AllReadyH.nil
                    go_simp
                    have T39 : Sep w ([boxR _ (.cells #[.string ⟨#[]⟩, .int .i64 0, .int .i64 0, .string ⟨#[]⟩, .bool false] 45), boxR _ (.cells #[.int .u8 kb, .int .u8 kc] 5)] ++ baseB) _ := Sep.alloc T38 (.cells #[.string ⟨#[]⟩, .int .i64 0, .int .i64 0, .string ⟨#[]⟩, .bool false] 45)
                    try simp only [size_drew, World.size_alloc] at T39
                    clear hH
                    refine hK.out _ _ (KbaseB.out _ [_, _] T39) (fun hH => ?_)
                    clear hK K
                    refine readyT [12] ?_
                    refine consT (fun K hK => ?_) AllReadyH.nil
                    have hz := T39.box 0 rfl
                    have z0 := cellAt hz 0 (v := .string ⟨#[]⟩) rfl
                    have z1 := cellAt hz 1 (v := .int .i64 0) rfl
                    have z2 := cellAt hz 2 (v := .int .i64 0) rfl
                    have z3 := cellAt hz 3 (v := .string ⟨#[]⟩) rfl
                    have z4 := cellAt hz 4 (v := .bool false) rfl
                    have z5 := frozenAt hz 0
                    have z6 := frozenAt hz 1
                    have z7 := frozenAt hz 2
                    have z8 := frozenAt hz 3
                    have z9 := frozenAt hz 4
                    go_simp
                    clear hz z0 z1 z2 z3 z4 z5 z6 z7 z8 z9
                    clear hH
                    first | (have T40 : Sep w ([boxR _ (.cells #[.string ⟨#[]⟩, .int .i64 0, .int .i64 0, .string ⟨#[]⟩, .bool false] 45), boxR _ (.cells #[.int .u8 kb, .int .u8 kc] 5)] ++ baseB) _ := (Sep.alloc T38 (.cells #[.string ⟨#[]⟩, .int .i64 0, .int .i64 0, .string ⟨#[]⟩, .bool false] 45)); (try simp only [size_drew, World.size_alloc] at T40); refine hK.out _ _ (KbaseB.out _ [_, _] T40) (fun hH => ?_)) | (have T40 : Sep w ([boxR _ (.cells #[.string ⟨#[]⟩, .int .i64 0, .int .i64 0, .string ⟨#[]⟩, .bool false] 45), boxR _ (.cells #[.int .u8 kb, .int .u8 kc] 5)] ++ baseB) _ := (Sep.setBox (cs := #[.string ⟨#[]⟩, .int .i64 0, .int .i64 0, .string ⟨#[]⟩, .bool false]) (t := 45) (Sep.setBox (cs := #[.string ⟨#[]⟩, .int .i64 0, .int .i64 0, .string ⟨#[]⟩, .bool false]) (t := 45) (Sep.setBox (cs := #[.string ⟨#[]⟩, .int .i64 0, .int .i64 0, .string ⟨#[]⟩, .bool false]) (t := 45) (Sep.setBox (cs := #[.string ⟨#[]⟩, .int .i64 0, .int .i64 0, .string ⟨#[]⟩, .bool false]) (t := 45) (Sep.setBox (cs := #[.string ⟨#[]⟩, .int .i64 0, .int .i64 0, .string ⟨#[]⟩, .bool false]) (t := 45) T39 0 rfl 0 (.string ⟨#[]⟩)) 0 rfl 1 (.int .i64 0)) 0 rfl 2 (.int .i64 0)) 0 rfl 3 (.string ⟨#[]⟩)) 0 rfl 4 (.bool false)); (try simp only [size_drew, World.size_alloc] at T40); refine hK.out _ _ (KbaseB.out _ [_, _] T40) (fun hH => ?_))
                    clear hK K
                    refine wpAnyH_done (by kernel_rfl) ?_ _
                    as_aux_lemma =>
                      go_wp2_with fail
                      go_meet
                      exact ⟨_, rfl, Sep.one T40 0 rfl⟩
                  · go_simp
                    have T41 : Sep w ([boxR _ (.cells #[.string ⟨#[]⟩, .int .i64 0, .int .i64 0, .string ⟨#[]⟩, .bool false] 45), boxR _ (.cells #[.int .u8 kb, .int .u8 kc] 5)] ++ baseA) _ := Sep.alloc T36 (.cells #[.string ⟨#[]⟩, .int .i64 0, .int .i64 0, .string ⟨#[]⟩, .bool false] 45)
                    try simp only [size_drew, World.size_alloc] at T41
                    clear hH
                    refine hK.out _ _ (KbaseA.out _ [_, _] T41) (fun hH => ?_)
                    clear hK K
                    refine readyT [10] ?_
                    refine consT (fun K hK => ?_) AllReadyH.nil
                    go_simp
                    go_wp2_with (go_at_call 20; refine (KT.out _ [_, _] T41).mono ?_; rintro e w42 ⟨rfl, T42⟩)
                    clear hH
                    refine hK.out _ _ (KbaseB.out _ [_, _] T42) (fun hH => ?_)
                    clear hK K
                    refine readyT [12] ?_
                    refine consT (fun K hK => ?_) AllReadyH.nil
                    have hz := T42.box 0 rfl
                    have z0 := cellAt hz 0 (v := .string ⟨#[]⟩) rfl
                    have z1 := cellAt hz 1 (v := .int .i64 0) rfl
                    have z2 := cellAt hz 2 (v := .int .i64 0) rfl
                    have z3 := cellAt hz 3 (v := .string ⟨#[]⟩) rfl
                    have z4 := cellAt hz 4 (v := .bool false) rfl
                    have z5 := frozenAt hz 0
                    have z6 := frozenAt hz 1
                    have z7 := frozenAt hz 2
                    have z8 := frozenAt hz 3
                    have z9 := frozenAt hz 4
                    go_simp
                    clear hz z0 z1 z2 z3 z4 z5 z6 z7 z8 z9
                    clear hH
                    have T43 : Sep w ([boxR _ (.cells #[.string ⟨#[]⟩, .int .i64 0, .int .i64 0, .string ⟨#[]⟩, .bool false] 45), boxR _ (.cells #[.int .u8 kb, .int .u8 kc] 5)] ++ baseB) _ := (Sep.setBox (cs := #[.string ⟨#[]⟩, .int .i64 0, .int .i64 0, .string ⟨#[]⟩, .bool false]) (t := 45) (Sep.setBox (cs := #[.string ⟨#[]⟩, .int .i64 0, .int .i64 0, .string ⟨#[]⟩, .bool false]) (t := 45) (Sep.setBox (cs := #[.string ⟨#[]⟩, .int .i64 0, .int .i64 0, .string ⟨#[]⟩, .bool false]) (t := 45) (Sep.setBox (cs := #[.string ⟨#[]⟩, .int .i64 0, .int .i64 0, .string ⟨#[]⟩, .bool false]) (t := 45) (Sep.setBox (cs := #[.string ⟨#[]⟩, .int .i64 0, .int .i64 0, .string ⟨#[]⟩, .bool false]) (t := 45) T42 0 rfl 0 (.string ⟨#[]⟩)) 0 rfl 1 (.int .i64 0)) 0 rfl 2 (.int .i64 0)) 0 rfl 3 (.string ⟨#[]⟩)) 0 rfl 4 (.bool false))
                    try simp only [size_drew, World.size_alloc] at T43
                    refine hK.out _ _ (KbaseB.out _ [_, _] T43) (fun hH => ?_)
                    clear hK K
                    refine wpAnyH_done (by kernel_rfl) ?_ _
                    as_aux_lemma =>
                      go_wp2_with fail
                      go_meet
                      exact ⟨_, rfl, Sep.one T43 0 rfl⟩
                · go_simp
                  have T44 : Sep w ([boxR _ (.cells #[.string ⟨#[]⟩, .int .i64 0, .int .i64 0, .string ⟨#[]⟩, .bool false] 45), boxR _ (.cells #[.int .u8 kb, .int .u8 kc] 5)] ++ baseA) _ := Sep.alloc T36 (.cells #[.string ⟨#[]⟩, .int .i64 0, .int .i64 0, .string ⟨#[]⟩, .bool false] 45)
                  try simp only [size_drew, World.size_alloc] at T44
                  clear hH
                  refine hK.out _ _ (KbaseA.out _ [_, _] T44) (fun hH => ?_)
                  clear hK K
                  refine readyT [8] ?_
                  refine consT (fun K hK => ?_) AllReadyH.nil
                  have hz := T44.box 1 rfl
                  have z0 := cellAt hz 0 (v := .int .u8 kb) rfl
                  have z1 := cellAt hz 1 (v := .int .u8 kc) rfl
                  have KC := name_ok _ _ pk 2 kb kc HB.out.1 HB.out.2 z0 z1
                  try simp only [World.alloc_drew] at KC
                  go_simp
                  clear hz z0 z1 KC
                  clear hH
                  refine hK.out _ _ (KbaseA.out _ [_, _] T44) (fun hH => ?_)
                  clear hK K
                  refine readyT [10] ?_
                  refine consT (fun K hK => ?_) AllReadyH.nil
                  go_simp
                  go_wp2_with (go_at_call 20; refine (KT.out _ [_, _] T44).mono ?_; rintro e w46 ⟨rfl, T46⟩)
                  clear hH
                  refine hK.out _ _ (KbaseB.out _ [_, _] T46) (fun hH => ?_)
                  clear hK K
                  refine readyT [12] ?_
                  refine consT (fun K hK => ?_) AllReadyH.nil
                  have hz := T46.box 0 rfl
                  have z0 := cellAt hz 0 (v := .string ⟨#[]⟩) rfl
                  have z1 := cellAt hz 1 (v := .int .i64 0) rfl
                  have z2 := cellAt hz 2 (v := .int .i64 0) rfl
                  have z3 := cellAt hz 3 (v := .string ⟨#[]⟩) rfl
                  have z4 := cellAt hz 4 (v := .bool false) rfl
                  have z5 := frozenAt hz 0
                  have z6 := frozenAt hz 1
                  have z7 := frozenAt hz 2
                  have z8 := frozenAt hz 3
                  have z9 := frozenAt hz 4
                  go_simp
                  clear hz z0 z1 z2 z3 z4 z5 z6 z7 z8 z9
                  clear hH
                  have T47 : Sep w ([boxR _ (.cells #[.string ⟨#[]⟩, .int .i64 0, .int .i64 0, .string ⟨#[]⟩, .bool false] 45), boxR _ (.cells #[.int .u8 kb, .int .u8 kc] 5)] ++ baseB) _ := (Sep.setBox (cs := #[.string ⟨#[]⟩, .int .i64 0, .int .i64 0, .string ⟨#[]⟩, .bool false]) (t := 45) (Sep.setBox (cs := #[.string ⟨#[]⟩, .int .i64 0, .int .i64 0, .string ⟨#[]⟩, .bool false]) (t := 45) (Sep.setBox (cs := #[.string ⟨#[]⟩, .int .i64 0, .int .i64 0, .string ⟨#[]⟩, .bool false]) (t := 45) (Sep.setBox (cs := #[.string ⟨#[]⟩, .int .i64 0, .int .i64 0, .string ⟨#[]⟩, .bool false]) (t := 45) (Sep.setBox (cs := #[.string ⟨#[]⟩, .int .i64 0, .int .i64 0, .string ⟨#[]⟩, .bool false]) (t := 45) T46 0 rfl 0 (.string ⟨#[]⟩)) 0 rfl 1 (.int .i64 0)) 0 rfl 2 (.int .i64 0)) 0 rfl 3 (.string ⟨#[]⟩)) 0 rfl 4 (.bool false))
                  try simp only [size_drew, World.size_alloc] at T47
                  refine hK.out _ _ (KbaseB.out _ [_, _] T47) (fun hH => ?_)
                  clear hK K
                  refine wpAnyH_done (by kernel_rfl) ?_ _
                  as_aux_lemma =>
                    go_wp2_with fail
                    go_meet
                    exact ⟨_, rfl, Sep.one T47 0 rfl⟩
              · go_simp
                have T48 : Sep w ([boxR _ (.cells #[.string ⟨#[]⟩, .int .i64 0, .int .i64 0, .string ⟨#[]⟩, .bool false] 45)] ++ baseA) _ := Sep.alloc T35 (.cells #[.string ⟨#[]⟩, .int .i64 0, .int .i64 0, .string ⟨#[]⟩, .bool false] 45)
                try simp only [size_drew, World.size_alloc] at T48
                clear hH
                refine hK.out _ _ (KbaseA.out _ [_] T48) (fun hH => ?_)
                clear hK K
                refine readyT [7] ?_
                refine consT (fun K hK => ?_) AllReadyH.nil
                go_simp
                have T49 : Sep w ([boxR _ (.cells #[.int .u8 kb, .int .u8 kc] 5), boxR _ (.cells #[.string ⟨#[]⟩, .int .i64 0, .int .i64 0, .string ⟨#[]⟩, .bool false] 45)] ++ baseA) _ := Sep.alloc T48 (.cells #[.int .u8 kb, .int .u8 kc] 5)
                try simp only [size_drew, World.size_alloc] at T49
                clear hH
                refine hK.out _ _ (KbaseA.out _ [_, _] T49) (fun hH => ?_)
                clear hK K
                refine readyT [8] ?_
                refine consT (fun K hK => ?_) AllReadyH.nil
                have hz := T49.box 0 rfl
                have z0 := cellAt hz 0 (v := .int .u8 kb) rfl
                have z1 := cellAt hz 1 (v := .int .u8 kc) rfl
                have KC := name_ok _ _ pk 2 kb kc HB.out.1 HB.out.2 z0 z1
                try simp only [World.alloc_drew] at KC
                go_simp
                clear hz z0 z1 KC
                clear hH
                refine hK.out _ _ (KbaseA.out _ [_, _] T49) (fun hH => ?_)
                clear hK K
                refine readyT [10] ?_
                refine consT (fun K hK => ?_) AllReadyH.nil
                go_simp
                go_wp2_with (go_at_call 20; refine (KT.out _ [_, _] T49).mono ?_; rintro e w51 ⟨rfl, T51⟩)
                clear hH
                refine hK.out _ _ (KbaseB.out _ [_, _] T51) (fun hH => ?_)
                clear hK K
                refine readyT [12] ?_
                refine consT (fun K hK => ?_) AllReadyH.nil
                have hz := T51.box 1 rfl
                have z0 := cellAt hz 0 (v := .string ⟨#[]⟩) rfl
                have z1 := cellAt hz 1 (v := .int .i64 0) rfl
                have z2 := cellAt hz 2 (v := .int .i64 0) rfl
                have z3 := cellAt hz 3 (v := .string ⟨#[]⟩) rfl
                have z4 := cellAt hz 4 (v := .bool false) rfl
                have z5 := frozenAt hz 0
                have z6 := frozenAt hz 1
                have z7 := frozenAt hz 2
                have z8 := frozenAt hz 3
                have z9 := frozenAt hz 4
                go_simp
                clear hz z0 z1 z2 z3 z4 z5 z6 z7 z8 z9
                clear hH
                have T52 : Sep w ([boxR _ (.cells #[.int .u8 kb, .int .u8 kc] 5), boxR _ (.cells #[.string ⟨#[]⟩, .int .i64 0, .int .i64 0, .string ⟨#[]⟩, .bool false] 45)] ++ baseB) _ := (Sep.setBox (cs := #[.string ⟨#[]⟩, .int .i64 0, .int .i64 0, .string ⟨#[]⟩, .bool false]) (t := 45) (Sep.setBox (cs := #[.string ⟨#[]⟩, .int .i64 0, .int .i64 0, .string ⟨#[]⟩, .bool false]) (t := 45) (Sep.setBox (cs := #[.string ⟨#[]⟩, .int .i64 0, .int .i64 0, .string ⟨#[]⟩, .bool false]) (t := 45) (Sep.setBox (cs := #[.string ⟨#[]⟩, .int .i64 0, .int .i64 0, .string ⟨#[]⟩, .bool false]) (t := 45) (Sep.setBox (cs := #[.string ⟨#[]⟩, .int .i64 0, .int .i64 0, .string ⟨#[]⟩, .bool false]) (t := 45) T51 1 rfl 0 (.string ⟨#[]⟩)) 1 rfl 1 (.int .i64 0)) 1 rfl 2 (.int .i64 0)) 1 rfl 3 (.string ⟨#[]⟩)) 1 rfl 4 (.bool false))
                try simp only [size_drew, World.size_alloc] at T52
                refine hK.out _ _ (KbaseB.out _ [_, _] T52) (fun hH => ?_)
                clear hK K
                refine wpAnyH_done (by kernel_rfl) ?_ _
                as_aux_lemma =>
                  go_wp2_with fail
                  go_meet
                  exact ⟨_, rfl, Sep.one T52 1 rfl⟩
            · go_simp
              have T53 : Sep w ([boxR _ (.cells #[.string ⟨#[]⟩, .int .i64 0, .int .i64 0, .string ⟨#[]⟩, .bool false] 45)] ++ baseA) _ := Sep.alloc T0 (.cells #[.string ⟨#[]⟩, .int .i64 0, .int .i64 0, .string ⟨#[]⟩, .bool false] 45)
              try simp only [size_drew, World.size_alloc] at T53
              clear hH
              refine hK.out _ _ (KbaseA.out _ [_] T53) (fun hH => ?_)
              clear hK K
              refine readyT [7, 9] ?_
              refine consT (fun K hK => ?_) (consT (fun K hK => ?_) AllReadyH.nil)
              · go_simp
                have T54 : Sep w ([boxR _ (.cells #[.int .u8 kb, .int .u8 kc] 5), boxR _ (.cells #[.string ⟨#[]⟩, .int .i64 0, .int .i64 0, .string ⟨#[]⟩, .bool false] 45)] ++ baseA) _ := Sep.alloc T53 (.cells #[.int .u8 kb, .int .u8 kc] 5)
                try simp only [size_drew, World.size_alloc] at T54
                clear hH
                refine hK.out _ _ (KbaseA.out _ [_, _] T54) (fun hH => ?_)
                clear hK K
                refine readyT [8, 9] ?_
                refine consT (fun K hK => ?_) (consT (fun K hK => ?_) AllReadyH.nil)
                · have hz := T54.box 0 rfl
                  have z0 := cellAt hz 0 (v := .int .u8 kb) rfl
                  have z1 := cellAt hz 1 (v := .int .u8 kc) rfl
                  have KC := name_ok _ _ pk 2 kb kc HB.out.1 HB.out.2 z0 z1
                  try simp only [World.alloc_drew] at KC
                  go_simp
                  clear hz z0 z1 KC
                  clear hH
                  refine hK.out _ _ (KbaseA.out _ [_, _] T54) (fun hH => ?_)
                  clear hK K
                  refine readyT [9] ?_
                  refine consT (fun K hK => ?_) AllReadyH.nil
                  go_simp
                  go_wp2_with (go_at_call 29; refine (KN.out _ [_, _] T54).mono ?_; rintro e w56 ⟨rfl, T56⟩)
                  clear hH
                  refine hK.out _ _ (KbaseA.out _ [_, _] T56) (fun hH => ?_)
                  clear hK K
                  refine readyT [10] ?_
                  refine consT (fun K hK => ?_) AllReadyH.nil
                  go_simp
                  go_wp2_with (go_at_call 20; refine (KT.out _ [_, _] T56).mono ?_; rintro e w57 ⟨rfl, T57⟩)
                  clear hH
                  refine hK.out _ _ (KbaseB.out _ [_, _] T57) (fun hH => ?_)
                  clear hK K
                  refine readyT [12] ?_
                  refine consT (fun K hK => ?_) AllReadyH.nil
                  have hz := T57.box 1 rfl
                  have z0 := cellAt hz 0 (v := .string ⟨#[]⟩) rfl
                  have z1 := cellAt hz 1 (v := .int .i64 0) rfl
                  have z2 := cellAt hz 2 (v := .int .i64 0) rfl
                  have z3 := cellAt hz 3 (v := .string ⟨#[]⟩) rfl
                  have z4 := cellAt hz 4 (v := .bool false) rfl
                  have z5 := frozenAt hz 0
                  have z6 := frozenAt hz 1
                  have z7 := frozenAt hz 2
                  have z8 := frozenAt hz 3
                  have z9 := frozenAt hz 4
                  go_simp
                  clear hz z0 z1 z2 z3 z4 z5 z6 z7 z8 z9
                  clear hH
                  have T58 : Sep w ([boxR _ (.cells #[.int .u8 kb, .int .u8 kc] 5), boxR _ (.cells #[.string ⟨#[]⟩, .int .i64 0, .int .i64 0, .string ⟨#[]⟩, .bool false] 45)] ++ baseB) _ := (Sep.setBox (cs := #[.string ⟨#[]⟩, .int .i64 0, .int .i64 0, .string ⟨#[]⟩, .bool false]) (t := 45) (Sep.setBox (cs := #[.string ⟨#[]⟩, .int .i64 0, .int .i64 0, .string ⟨#[]⟩, .bool false]) (t := 45) (Sep.setBox (cs := #[.string ⟨#[]⟩, .int .i64 0, .int .i64 0, .string ⟨#[]⟩, .bool false]) (t := 45) (Sep.setBox (cs := #[.string ⟨#[]⟩, .int .i64 0, .int .i64 0, .string ⟨#[]⟩, .bool false]) (t := 45) (Sep.setBox (cs := #[.string ⟨#[]⟩, .int .i64 0, .int .i64 0, .string ⟨#[]⟩, .bool false]) (t := 45) T57 1 rfl 0 (.string ⟨#[]⟩)) 1 rfl 1 (.int .i64 0)) 1 rfl 2 (.int .i64 0)) 1 rfl 3 (.string ⟨#[]⟩)) 1 rfl 4 (.bool false))
                  try simp only [size_drew, World.size_alloc] at T58
                  refine hK.out _ _ (KbaseB.out _ [_, _] T58) (fun hH => ?_)
                  clear hK K
                  refine wpAnyH_done (by kernel_rfl) ?_ _
                  as_aux_lemma =>
                    go_wp2_with fail
                    go_meet
                    exact ⟨_, rfl, Sep.one T58 1 rfl⟩
                · go_simp
                  go_wp2_with (go_at_call 29; refine (KN.out _ [_, _] T54).mono ?_; rintro e w59 ⟨rfl, T59⟩)
                  clear hH
                  refine hK.out _ _ (KbaseA.out _ [_, _] T59) (fun hH => ?_)
                  clear hK K
                  refine readyT [8] ?_
                  refine consT (fun K hK => ?_) AllReadyH.nil
                  have hz := T59.box 0 rfl
                  have z0 := cellAt hz 0 (v := .int .u8 kb) rfl
                  have z1 := cellAt hz 1 (v := .int .u8 kc) rfl
                  have KC := name_ok _ _ pk 2 kb kc HB.out.1 HB.out.2 z0 z1
                  try simp only [World.alloc_drew] at KC
                  go_simp
                  clear hz z0 z1 KC
                  clear hH
                  refine hK.out _ _ (KbaseA.out _ [_, _] T59) (fun hH => ?_)
                  clear hK K
                  refine readyT [10] ?_
                  refine consT (fun K hK => ?_) AllReadyH.nil
                  go_simp
                  go_wp2_with (go_at_call 20; refine (KT.out _ [_, _] T59).mono ?_; rintro e w61 ⟨rfl, T61⟩)
                  clear hH
                  refine hK.out _ _ (KbaseB.out _ [_, _] T61) (fun hH => ?_)
                  clear hK K
                  refine readyT [12] ?_
                  refine consT (fun K hK => ?_) AllReadyH.nil
                  have hz := T61.box 1 rfl
                  have z0 := cellAt hz 0 (v := .string ⟨#[]⟩) rfl
                  have z1 := cellAt hz 1 (v := .int .i64 0) rfl
                  have z2 := cellAt hz 2 (v := .int .i64 0) rfl
                  have z3 := cellAt hz 3 (v := .string ⟨#[]⟩) rfl
                  have z4 := cellAt hz 4 (v := .bool false) rfl
                  have z5 := frozenAt hz 0
                  have z6 := frozenAt hz 1
                  have z7 := frozenAt hz 2
                  have z8 := frozenAt hz 3
                  have z9 := frozenAt hz 4
                  go_simp
                  clear hz z0 z1 z2 z3 z4 z5 z6 z7 z8 z9
                  clear hH
                  have T62 : Sep w ([boxR _ (.cells #[.int .u8 kb, .int .u8 kc] 5), boxR _ (.cells #[.string ⟨#[]⟩, .int .i64 0, .int .i64 0, .string ⟨#[]⟩, .bool false] 45)] ++ baseB) _ := (Sep.setBox (cs := #[.string ⟨#[]⟩, .int .i64 0, .int .i64 0, .string ⟨#[]⟩, .bool false]) (t := 45) (Sep.setBox (cs := #[.string ⟨#[]⟩, .int .i64 0, .int .i64 0, .string ⟨#[]⟩, .bool false]) (t := 45) (Sep.setBox (cs := #[.string ⟨#[]⟩, .int .i64 0, .int .i64 0, .string ⟨#[]⟩, .bool false]) (t := 45) (Sep.setBox (cs := #[.string ⟨#[]⟩, .int .i64 0, .int .i64 0, .string ⟨#[]⟩, .bool false]) (t := 45) (Sep.setBox (cs := #[.string ⟨#[]⟩, .int .i64 0, .int .i64 0, .string ⟨#[]⟩, .bool false]) (t := 45) T61 1 rfl 0 (.string ⟨#[]⟩)) 1 rfl 1 (.int .i64 0)) 1 rfl 2 (.int .i64 0)) 1 rfl 3 (.string ⟨#[]⟩)) 1 rfl 4 (.bool false))
                  try simp only [size_drew, World.size_alloc] at T62
                  refine hK.out _ _ (KbaseB.out _ [_, _] T62) (fun hH => ?_)
                  clear hK K
                  refine wpAnyH_done (by kernel_rfl) ?_ _
                  as_aux_lemma =>
                    go_wp2_with fail
                    go_meet
                    exact ⟨_, rfl, Sep.one T62 1 rfl⟩
              · go_simp
                go_wp2_with (go_at_call 29; refine (KN.out _ [_] T53).mono ?_; rintro e w63 ⟨rfl, T63⟩)
                clear hH
                refine hK.out _ _ (KbaseA.out _ [_] T63) (fun hH => ?_)
                clear hK K
                refine readyT [7] ?_
                refine consT (fun K hK => ?_) AllReadyH.nil
                go_simp
                have T64 : Sep w ([boxR _ (.cells #[.int .u8 kb, .int .u8 kc] 5), boxR _ (.cells #[.string ⟨#[]⟩, .int .i64 0, .int .i64 0, .string ⟨#[]⟩, .bool false] 45)] ++ baseA) _ := Sep.alloc T63 (.cells #[.int .u8 kb, .int .u8 kc] 5)
                try simp only [size_drew, World.size_alloc] at T64
                clear hH
                refine hK.out _ _ (KbaseA.out _ [_, _] T64) (fun hH => ?_)
                clear hK K
                refine readyT [8] ?_
                refine consT (fun K hK => ?_) AllReadyH.nil
                have hz := T64.box 0 rfl
                have z0 := cellAt hz 0 (v := .int .u8 kb) rfl
                have z1 := cellAt hz 1 (v := .int .u8 kc) rfl
                have KC := name_ok _ _ pk 2 kb kc HB.out.1 HB.out.2 z0 z1
                try simp only [World.alloc_drew] at KC
                go_simp
                clear hz z0 z1 KC
                clear hH
                refine hK.out _ _ (KbaseA.out _ [_, _] T64) (fun hH => ?_)
                clear hK K
                refine readyT [10] ?_
                refine consT (fun K hK => ?_) AllReadyH.nil
                go_simp
                go_wp2_with (go_at_call 20; refine (KT.out _ [_, _] T64).mono ?_; rintro e w66 ⟨rfl, T66⟩)
                clear hH
                refine hK.out _ _ (KbaseB.out _ [_, _] T66) (fun hH => ?_)
                clear hK K
                refine readyT [12] ?_
                refine consT (fun K hK => ?_) AllReadyH.nil
                have hz := T66.box 1 rfl
                have z0 := cellAt hz 0 (v := .string ⟨#[]⟩) rfl
                have z1 := cellAt hz 1 (v := .int .i64 0) rfl
                have z2 := cellAt hz 2 (v := .int .i64 0) rfl
                have z3 := cellAt hz 3 (v := .string ⟨#[]⟩) rfl
                have z4 := cellAt hz 4 (v := .bool false) rfl
                have z5 := frozenAt hz 0
                have z6 := frozenAt hz 1
                have z7 := frozenAt hz 2
                have z8 := frozenAt hz 3
                have z9 := frozenAt hz 4
                go_simp
                clear hz z0 z1 z2 z3 z4 z5 z6 z7 z8 z9
                clear hH
                have T67 : Sep w ([boxR _ (.cells #[.int .u8 kb, .int .u8 kc] 5), boxR _ (.cells #[.string ⟨#[]⟩, .int .i64 0, .int .i64 0, .string ⟨#[]⟩, .bool false] 45)] ++ baseB) _ := (Sep.setBox (cs := #[.string ⟨#[]⟩, .int .i64 0, .int .i64 0, .string ⟨#[]⟩, .bool false]) (t := 45) (Sep.setBox (cs := #[.string ⟨#[]⟩, .int .i64 0, .int .i64 0, .string ⟨#[]⟩, .bool false]) (t := 45) (Sep.setBox (cs := #[.string ⟨#[]⟩, .int .i64 0, .int .i64 0, .string ⟨#[]⟩, .bool false]) (t := 45) (Sep.setBox (cs := #[.string ⟨#[]⟩, .int .i64 0, .int .i64 0, .string ⟨#[]⟩, .bool false]) (t := 45) (Sep.setBox (cs := #[.string ⟨#[]⟩, .int .i64 0, .int .i64 0, .string ⟨#[]⟩, .bool false]) (t := 45) T66 1 rfl 0 (.string ⟨#[]⟩)) 1 rfl 1 (.int .i64 0)) 1 rfl 2 (.int .i64 0)) 1 rfl 3 (.string ⟨#[]⟩)) 1 rfl 4 (.bool false))
                try simp only [size_drew, World.size_alloc] at T67
                refine hK.out _ _ (KbaseB.out _ [_, _] T67) (fun hH => ?_)
                clear hK K
                refine wpAnyH_done (by kernel_rfl) ?_ _
                as_aux_lemma =>
                  go_wp2_with fail
                  go_meet
                  exact ⟨_, rfl, Sep.one T67 1 rfl⟩
        case rest =>
          obtain ⟨x12, rfl, S⟩ := hcut
          rw [HbaseB.out] at S
          clear KN KT KbaseA KbaseB HbaseA HbaseB e8 e9
          replace S : Sep w (boxR x12 (.cells #[.string ⟨#[]⟩, .int .i64 0, .int .i64 0, .string ⟨#[]⟩, .bool false] 45) :: boxR x11 (.cells #[.string ⟨#[77, 101, 109, 111, 114, 121, 69, 114, 114, 111, 114]⟩, .int .i64 0, .int .i64 0, .string ⟨#[]⟩, .bool false] 45) :: boxR (x7 + 1) (.cells #[.string ⟨#[]⟩, .int .i64 0, .int .i64 0, .string ⟨#[]⟩, .bool false] 45) :: boxR x7 (.cells #[.int .i64 4, .int .i64 3, .string ⟨#[]⟩] 33) :: heapR h H3 :: []) _ := S
          have d0 := cellAt (S.box (b := x7) 3 rfl) 0 (v := .int .i64 4) rfl
          have d1 := cellAt (S.box (b := x7) 3 rfl) 1 (v := .int .i64 3) rfl
          have d2 := cellAt (S.box (b := x7) 3 rfl) 2 (v := .string ⟨#[]⟩) rfl
          have d3 := cellAt (S.box (b := x11) 1 rfl) 0 (v := .string ⟨#[77, 101, 109, 111, 114, 121, 69, 114, 114, 111, 114]⟩) rfl
          have d4 := cellAt (S.box (b := x11) 1 rfl) 1 (v := .int .i64 0) rfl
          have d5 := cellAt (S.box (b := x11) 1 rfl) 2 (v := .int .i64 0) rfl
          have d6 := cellAt (S.box (b := x11) 1 rfl) 3 (v := .string ⟨#[]⟩) rfl
          have d7 := cellAt (S.box (b := x11) 1 rfl) 4 (v := .bool false) rfl
          have d8 := cellAt (S.box (b := x12) 0 rfl) 0 (v := .string ⟨#[]⟩) rfl
          have d9 := cellAt (S.box (b := x12) 0 rfl) 1 (v := .int .i64 0) rfl
          have d10 := cellAt (S.box (b := x12) 0 rfl) 2 (v := .int .i64 0) rfl
          have d11 := cellAt (S.box (b := x12) 0 rfl) 3 (v := .string ⟨#[]⟩) rfl
          have d12 := cellAt (S.box (b := x12) 0 rfl) 4 (v := .bool false) rfl
          have M := Lib.hid (kf_size S 4 rfl r3F 4096 (by rw [FV.out.2]; rfl))
          clear S
          go_wp2_with fail
          refine M.out.mono ?_
          rintro e w6 ⟨rfl, S⟩
          clear M d0 d1 d2 d3 d4 d5 d6 d7 d8 d9 d10 d11 d12
          replace S : Sep w (boxR x12 (.cells #[.string ⟨#[]⟩, .int .i64 0, .int .i64 0, .string ⟨#[]⟩, .bool false] 45) :: boxR x11 (.cells #[.string ⟨#[77, 101, 109, 111, 114, 121, 69, 114, 114, 111, 114]⟩, .int .i64 0, .int .i64 0, .string ⟨#[]⟩, .bool false] 45) :: boxR (x7 + 1) (.cells #[.string ⟨#[]⟩, .int .i64 0, .int .i64 0, .string ⟨#[]⟩, .bool false] 45) :: boxR x7 (.cells #[.int .i64 4, .int .i64 3, .string ⟨#[]⟩] 33) :: heapR h H3 :: []) _ := S
          replace S := Lib.hid S.below
          go_wp2
          go_ret
          exact ⟨rfl, S.out⟩
theorem walk (w : World) (cl : Bool) (wh : Int) : Calls Try.prog 5 #[.bool cl, .int .i64 wh] w fun e W' => e = .returned (.bool true) ∧ Below w.heap.size w W' := by
  cases cl with
  | true => exact walk_class w wh
  | false => exact walk_inst w wh
set_option maxRecDepth 100000 in
theorem lifted (os : Os) (started : os.Started) (H : Type) (enc : TypeId × Value → H) :
    ReturnsInHanded {} Try.checked os 5 .any (Rows.objectFullSpec.pre6 enc Try.prog Try.f5 Rows.objectFullRow.domain false) (Rows.objectFullSpec.post enc Try.prog Try.f5 false true false false) := by
  refine law_lift (C := Try.checked) own started (by kernel_rfl) Try.func5
    (ChangeSpec.witness6 (enc := enc) (C := Try.checked) false ⟨#[], #[.bool false, .int .i64 0], []⟩ 8 (by kernel_rfl) (by kernel_rfl) (by kernel_rfl) (by kernel_rfl))
    (by kernel_rfl) (by kernel_rfl) rfl (fun ds h => by
      match ds, h with
      | [d1, d2], _ => exact ⟨rfl, rfl, rfl⟩) rfl Try.underlying4 ?_
  intro W base args ds ps hval hA hlt hwt hsh
  rw [Try.params5] at hA hval
  obtain ⟨v0, vs0, d0, ds0, p0, q0, hargs, rfl, rfl, h0, r0⟩ := trodAll_cons hA
  obtain ⟨v1, vs1, d1, ds1, p1, q1, rfl, rfl, rfl, h1, r1⟩ := trodAll_cons r0
  obtain ⟨rfl, rfl, rfl⟩ := trodAll_nil r1
  obtain rfl : args = #[v0, v1] := by cases args; simp_all
  obtain ⟨b0, rfl, rfl, rfl⟩ := open_bool Try.underlying4 (hval 0 4 v0 rfl rfl) h0
  obtain ⟨a1, rfl, rfl, rfl, w1⟩ := open_int Try.underlying3 (hval 1 3 v1 rfl rfl) h1
  -- WALK
  exact walk W b0 a1
theorem proved : Rows.ObjectFullSaid :=
  OpenClaim.holds_of_wide 5 Try.f5 rfl rfl rfl rfl rfl rfl rfl ⟨rfl, rfl, rfl, rfl, rfl⟩ rfl rfl rfl rfl rfl (by kernel_rfl) Try.func5 (by kernel_rfl)
    (of_decide_eq_true (by kernel_rfl)) (by unfold Func.isWrapper; first | (rw [if_pos (by decide +kernel)]; kernel_rfl) | (rw [if_neg (by decide +kernel)]; exact ⟨rfl, rfl⟩))
    (fun os started H enc _ => lifted os started H enc)
#print axioms proved
end Go.Proofs.Ytkocenlglodklaa.objectFull
