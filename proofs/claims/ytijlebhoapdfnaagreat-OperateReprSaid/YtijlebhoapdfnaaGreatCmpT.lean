/- ch 16: Cmp. -/
import Derived.Test.YtijlebhoapdfnaaGreatOprC
import Derived.Laws.EntriesVeiled
set_option maxRecDepth 100000
set_option maxHeartbeats 8000000
namespace Go.Proofs.YtijlebhoapdfnaaGreat
set_option linter.unusedSimpArgs false
open Go.RowKit Go.Maps
set_option linter.unusedVariables false
/-- A map among what lies apart. -/
def mapR {K X : Type} [DecidableEq K] (kt : TypeId) (ek : K → Value) (ex : X → Value) (m : Nat) (l : List (K × X)) : Res := ⟨fun W F => mapIs W Tryz.prog kt ek ex m l ∧ F = [m], fun {W W' F} h k => ⟨h.1.of_block (k m (by rw [h.2]; simp)), h.2⟩, fun {W F} h b hb => by rw [h.2] at hb; simp at hb; subst hb; exact h.1.lt⟩
theorem Sep.mapMade {w W : World} {Rs : List Res} {K X : Type} [DecidableEq K] (S : Sep w Rs W) (kt : TypeId) (ek : K → Value) (ex : X → Value) : Sep w (mapR kt ek ex W.heap.size [] :: Rs) (W.alloc (.map #[] 0)) :=
 S.add (belowAlloc W _) (G := [W.heap.size]) ⟨mapIs_made W Tryz.prog kt ek ex, rfl⟩ (by simp) (by simp)
theorem Sep.mapPut {w W : World} {Rs : List Res} {K X : Type} [DecidableEq K] {kt : TypeId} {ek : K → Value} {ex : X → Value} {m : Nat} {l : List (K × X)} (i : Nat) (S : Sep w Rs W) (hi : Rs[i]? = some (mapR kt ek ex m l)) (hinj : ∀ a b, ek a = ek b → a = b) (KL : Keyed Tryz.prog kt) {t et : TypeId} (ht : Tryz.prog.underlying t = some (.map kt et)) {k : K} {kl : Lit} (hkey : keyOf Tryz.prog kt (ek k) = some kl) (x : X) :
  ∃ W', (Instr.mapUpdate t (.map (some m)) (ek k) (ex x)).run Tryz.prog W = .ok () W' ∧ Sep w (Rs.set i (mapR kt ek ex m (putL l k x))) W' ∧ W'.heap.size = W.heap.size := by
 obtain ⟨F, h1, _⟩ := S.get i hi
 obtain ⟨W', r1, r2, r3⟩ := h1.1.update hinj KL ht hkey x
 refine ⟨W', r1, S.turn i hi fun F' hF hn _ => ⟨[m], ⟨r2, rfl⟩, by simp, fun b hb => .inl (by rw [hF.2]; exact hb), ?_⟩, r3.1⟩
 have := Outside.of_grown r3.2
 exact this.mono (by rw [hF.2]; intro b hb; simpa using hb)
theorem Sep.mapLook {w W : World} {Rs : List Res} {K X : Type} [DecidableEq K] {kt : TypeId} {ek : K → Value} {ex : X → Value} {m : Nat} {l : List (K × X)} (i : Nat) (S : Sep w Rs W) (hi : Rs[i]? = some (mapR kt ek ex m l)) : mapIs W Tryz.prog kt ek ex m l := by
 obtain ⟨F, h1, _⟩ := S.get i hi
 exact h1.1
abbrev ordV (q : Nat) : Value := .func (.func 160) #[] #[.pointer (some ⟨q + 1, 0, none⟩), .pointer (some ⟨q, 0, none⟩)]
def ekS (s : ByteArray) : Value := .string s
def exC (x : Value × Bool) : Value := .agg #[x.1, .bool x.2]
theorem ekS_inj (a b : ByteArray) (h : ekS a = ekS b) : a = b := by cases h; rfl
theorem keyS_ : Keyed Tryz.prog 9 := string_keyed Tryz.underlying9
theorem keyOfS (s : ByteArray) (h : s.size ≤ maxLen) : ∃ kl, keyOf Tryz.prog 9 (ekS s) = some kl := ⟨.string s.data.toList, by simp [keyOf, ekS, Tryz.underlying9, mapKey, Lit.wf, h]⟩
abbrev cmpR (m : Nat) (l : List (ByteArray × (Value × Bool))) : Res := mapR 9 ekS exC m l
section
variable {w W : World} {Rs : List Res} {h : Nat} {H : HeapM}
theorem cmpPut {m : Nat} {l l' : List (ByteArray × (Value × Bool))} (i : Nat) (S : Sep w Rs W) (hi : Rs[i]? = some (cmpR m l)) (k : ByteArray) (hk : k.size ≤ maxLen) (f : Value) (nt : Bool) (hl : getL l k = none) (hl' : l' = l ++ [(k, (f, nt))]) :
  ∃ W', (Instr.mapUpdate 133 (.map (some m)) (.string k) (.agg #[f, .bool nt])).run Tryz.prog W = .ok () W' ∧ Sep w (Rs.set i (cmpR m l')) W' ∧ W'.heap.size = W.heap.size := by
 subst hl'
 obtain ⟨kl, hkl⟩ := keyOfS k hk
 have := S.mapPut i hi ekS_inj keyS_ Tryz.underlying133 hkl (f, nt)
 rw [putL_none _ hl] at this
 exact this
theorem order_ok (S : Sep w Rs W) (q : Nat) (hq : W.heap.size = q) (x y : Bool) : Calls Tryz.prog 116 #[.bool x, .bool y] W fun e W' => e = .returned (ordV q) ∧ Sep w (boxR (q + 1) (.cells #[.bool y] 4) :: boxR q (.cells #[.bool x] 4) :: Rs) W' ∧ W'.heap.size = q + 1 + 1 := by
 have S1 := (S.alloc (.cells #[.bool x] 4)).alloc (.cells #[.bool y] 4)
 simp only [World.size_alloc, hq] at S1
 have HS := Lib.hid S1
 have HQ := Lib.hid hq
 clear S S1 hq
 go_enter Tryz.func116, Tryz.ntmps116
 go_wp2
 go_ret
 exact ⟨by rw [← HQ.out]; rfl, HS.out, by simp [HQ.out]⟩
/-- The table of comparisons, its functions' cells from m on. -/
def cmpTab (m : Nat) : List (ByteArray × (Value × Bool)) := [(⟨#[61, 61]⟩, (.func (.func 27) #[] #[], false)),
 (⟨#[33, 61]⟩, (.func (.func 27) #[] #[], true)),
 (⟨#[105, 115]⟩, (.func (.func 113) #[] #[], false)),
 (⟨#[105, 115, 32, 110, 111, 116]⟩, (.func (.func 113) #[] #[], true)),
 (⟨#[105, 110]⟩, (.func (.func 115) #[] #[], false)),
 (⟨#[110, 111, 116, 32, 105, 110]⟩, (.func (.func 115) #[] #[], true)),
 (⟨#[60]⟩, (ordV (m + 1), false)),
 (⟨#[60, 61]⟩, (ordV (m + 3), false)),
 (⟨#[62]⟩, (ordV (m + 5), false)),
 (⟨#[62, 61]⟩, (ordV (m + 7), false))]
/-- What a comparison tells, or what is raised. -/
inductive CmpRes | ok (b : Bool) | type | deep
def CmpRes.val : CmpRes → Value | .ok b => .tuple #[.bool b, excZ] | .type => .tuple #[.bool false, excN typeError] | .deep => .tuple #[.bool false, excN recursionError]
abbrev yesV (b : Bool) : Value := .agg #[.int .i64 1, .int .i64 (if b = true then 1 else 0), .string ⟨#[]⟩]
def cmpV : CmpRes → Bool → Value | .ok b, nt => .tuple #[yesV (b != nt), excZ] | .type, _ => .tuple #[zeroV, excN typeError] | .deep, _ => .tuple #[zeroV, excN recursionError]
theorem yes_ok (W : World) (b : Bool) : Calls Tryz.prog 117 #[.bool b] W fun e W' => e = .returned (yesV b) ∧ Below W.heap.size W W' := by
 cases b
 ·
  go_enter Tryz.func117, Tryz.ntmps117
  go_wp2
  exact bodyPost_ret (v := yesV false) (by simp [results, Tryz.results117, go_sem]) rfl ⟨rfl, by exact belowA⟩
 ·
  go_enter Tryz.func117, Tryz.ntmps117
  go_wp2
  exact bodyPost_ret (v := yesV true) (by simp [results, Tryz.results117, go_sem]) rfl ⟨rfl, by exact belowA⟩
theorem cmp_same (S : Sep w Rs W) (i : Nat) (hi : Rs[i]? = some (heapR h H)) (op : ByteArray) (hops : op.size ≤ maxLen) (nt : Bool) (x y : V) (q : CmpRes) (hop : ∀ m, getL (cmpTab m) op = some (.func (.func 27) #[] #[], nt))
  (KD : ∀ {Rs : List Res} {W : World} (i : Nat), Sep w Rs W → Rs[i]? = some (heapR h H) → Calls Tryz.prog 27 #[.pointer (some ⟨h, 0, none⟩), .agg #[.int .i64 x.kind, .int .i64 x.n, .string x.s], .agg #[.int .i64 y.kind, .int .i64 y.n, .string y.s]] W fun e W' => e = .returned q.val ∧ Sep w Rs W') :
  Calls Tryz.prog 25 #[.pointer (some ⟨h, 0, none⟩), .string op, .agg #[.int .i64 x.kind, .int .i64 x.n, .string x.s], .agg #[.int .i64 y.kind, .int .i64 y.n, .string y.s]] W fun e W' => e = .returned (cmpV q nt) ∧ Sep w Rs W' := by
 obtain ⟨b, hb⟩ : ∃ gx_, (W.heap.size) = gx_ := ⟨_, rfl⟩
 have S1 := (((S.alloc (.cells #[.int .i64 x.kind, .int .i64 x.n, .string x.s] 24)).alloc (.cells #[.int .i64 y.kind, .int .i64 y.n, .string y.s] 24)).alloc (.cells #[.int .i64 0, .int .i64 0, .string ⟨#[]⟩] 24)).alloc (.cells #[.string ⟨#[]⟩, .int .i64 0, .int .i64 0, .string ⟨#[]⟩, .bool false] 33)
 have S2 := S1.mapMade 9 ekS exC
 simp only [World.size_alloc, hb] at S2
 obtain ⟨m, hm⟩ : ∃ m, m = b + 1 + 1 + 1 + 1 := ⟨_, rfl⟩
 rw [← hm] at S2
 obtain ⟨W0, hW0⟩ : ∃ W0, W0 = ((((W.alloc (.cells #[.int .i64 x.kind, .int .i64 x.n, .string x.s] 24)).alloc (.cells #[.int .i64 y.kind, .int .i64 y.n, .string y.s] 24)).alloc (.cells #[.int .i64 0, .int .i64 0, .string ⟨#[]⟩] 24)).alloc (.cells #[.string ⟨#[]⟩, .int .i64 0, .int .i64 0, .string ⟨#[]⟩, .bool false] 33)).alloc (.map #[] 0) := ⟨_, rfl⟩
 have z0 : W0.heap.size = m + 1 := by rw [hW0]; simp only [World.size_alloc, hb]; omega
 rw [← hW0] at S2
 replace S2 : Sep w (cmpR m [] :: boxE (b + 1 + 1 + 1) :: boxZ (b + 1 + 1) :: boxV (b + 1) y :: boxV b x :: Rs) W0 := S2
 obtain ⟨W1, r1, T1, z1⟩ := cmpPut (l' := [(⟨#[61, 61]⟩, (.func (.func 27) #[] #[], false))]) 0 S2 rfl ⟨#[61, 61]⟩ (by decide) (.func (.func 27) #[] #[]) false rfl rfl
 obtain ⟨W2, r2, T2, z2⟩ := cmpPut (l' := [(⟨#[61, 61]⟩, (.func (.func 27) #[] #[], false)), (⟨#[33, 61]⟩, (.func (.func 27) #[] #[], true))]) 0 T1 rfl ⟨#[33, 61]⟩ (by decide) (.func (.func 27) #[] #[]) true rfl rfl
 obtain ⟨W3, r3, T3, z3⟩ := cmpPut (l' := [(⟨#[61, 61]⟩, (.func (.func 27) #[] #[], false)), (⟨#[33, 61]⟩, (.func (.func 27) #[] #[], true)), (⟨#[105, 115]⟩, (.func (.func 113) #[] #[], false))]) 0 T2 rfl ⟨#[105, 115]⟩ (by decide) (.func (.func 113) #[] #[]) false rfl rfl
 obtain ⟨W4, r4, T4, z4⟩ := cmpPut (l' := [(⟨#[61, 61]⟩, (.func (.func 27) #[] #[], false)), (⟨#[33, 61]⟩, (.func (.func 27) #[] #[], true)), (⟨#[105, 115]⟩, (.func (.func 113) #[] #[], false)), (⟨#[105, 115, 32, 110, 111, 116]⟩, (.func (.func 113) #[] #[], true))]) 0 T3 rfl ⟨#[105, 115, 32, 110, 111, 116]⟩ (by decide) (.func (.func 113) #[] #[]) true rfl rfl
 obtain ⟨W5, r5, T5, z5⟩ := cmpPut (l' := [(⟨#[61, 61]⟩, (.func (.func 27) #[] #[], false)), (⟨#[33, 61]⟩, (.func (.func 27) #[] #[], true)), (⟨#[105, 115]⟩, (.func (.func 113) #[] #[], false)), (⟨#[105, 115, 32, 110, 111, 116]⟩, (.func (.func 113) #[] #[], true)), (⟨#[105, 110]⟩, (.func (.func 115) #[] #[], false))]) 0 T4 rfl ⟨#[105, 110]⟩ (by decide) (.func (.func 115) #[] #[]) false rfl rfl
 obtain ⟨W6, r6, T6, z6⟩ := cmpPut (l' := [(⟨#[61, 61]⟩, (.func (.func 27) #[] #[], false)), (⟨#[33, 61]⟩, (.func (.func 27) #[] #[], true)), (⟨#[105, 115]⟩, (.func (.func 113) #[] #[], false)), (⟨#[105, 115, 32, 110, 111, 116]⟩, (.func (.func 113) #[] #[], true)), (⟨#[105, 110]⟩, (.func (.func 115) #[] #[], false)), (⟨#[110, 111, 116, 32, 105, 110]⟩, (.func (.func 115) #[] #[], true))]) 0 T5 rfl ⟨#[110, 111, 116, 32, 105, 110]⟩ (by decide) (.func (.func 115) #[] #[]) true rfl rfl
 replace z6 : W6.heap.size = m + 1 := by omega
 have K := Lib.hid (order_ok T6 (m + 1) z6 true false)
 have HI := Lib.hid (And.intro hi (And.intro hop hm))
 clear S S1 S2 hi hop T1 T2 T3 T4 T5 T6 z0 z1 z2 z3 z4 z5 z6
 have hmk : (Instr.makeMap 133 none).run Tryz.prog ((((W.alloc (.cells #[.int .i64 x.kind, .int .i64 x.n, .string x.s] 24)).alloc (.cells #[.int .i64 y.kind, .int .i64 y.n, .string y.s] 24)).alloc (.cells #[.int .i64 0, .int .i64 0, .string ⟨#[]⟩] 24)).alloc (.cells #[.string ⟨#[]⟩, .int .i64 0, .int .i64 0, .string ⟨#[]⟩, .bool false] 33)) = .ok (.map (some m)) W0 := by
  rw [run_makeMap, hW0, hm]; simp only [World.size_alloc, hb]
 clear hW0 hm
 go_enter Tryz.func25, Tryz.ntmps25
 go_wp2_with fail
 try simp only [World.size_alloc, hb]
 refine K.out.mono ?_
 rintro e V6 ⟨rfl, T, zz⟩
 clear K hb hmk r1 r2 r3 r4 r5 r6
 obtain ⟨W7, r, T, z⟩ := cmpPut (l' := [(⟨#[61, 61]⟩, (.func (.func 27) #[] #[], false)), (⟨#[33, 61]⟩, (.func (.func 27) #[] #[], true)), (⟨#[105, 115]⟩, (.func (.func 113) #[] #[], false)), (⟨#[105, 115, 32, 110, 111, 116]⟩, (.func (.func 113) #[] #[], true)), (⟨#[105, 110]⟩, (.func (.func 115) #[] #[], false)), (⟨#[110, 111, 116, 32, 105, 110]⟩, (.func (.func 115) #[] #[], true)), (⟨#[60]⟩, (ordV (m + 1), false))]) 2 T rfl ⟨#[60]⟩ (by decide) (ordV (m + 1)) false rfl rfl
 replace z : W7.heap.size = m + 3 := by omega
 have K := Lib.hid (order_ok T (m + 3) z true true)
 clear T z zz
 go_wp2_with fail
 refine K.out.mono ?_
 rintro e V7 ⟨rfl, T, zz⟩
 clear K r
 obtain ⟨W8, r, T, z⟩ := cmpPut (l' := [(⟨#[61, 61]⟩, (.func (.func 27) #[] #[], false)), (⟨#[33, 61]⟩, (.func (.func 27) #[] #[], true)), (⟨#[105, 115]⟩, (.func (.func 113) #[] #[], false)), (⟨#[105, 115, 32, 110, 111, 116]⟩, (.func (.func 113) #[] #[], true)), (⟨#[105, 110]⟩, (.func (.func 115) #[] #[], false)), (⟨#[110, 111, 116, 32, 105, 110]⟩, (.func (.func 115) #[] #[], true)), (⟨#[60]⟩, (ordV (m + 1), false)), (⟨#[60, 61]⟩, (ordV (m + 3), false))]) 4 T rfl ⟨#[60, 61]⟩ (by decide) (ordV (m + 3)) false rfl rfl
 replace z : W8.heap.size = m + 5 := by omega
 have K := Lib.hid (order_ok T (m + 5) z false false)
 clear T z zz
 go_wp2_with fail
 refine K.out.mono ?_
 rintro e V8 ⟨rfl, T, zz⟩
 clear K r
 obtain ⟨W9, r, T, z⟩ := cmpPut (l' := [(⟨#[61, 61]⟩, (.func (.func 27) #[] #[], false)), (⟨#[33, 61]⟩, (.func (.func 27) #[] #[], true)), (⟨#[105, 115]⟩, (.func (.func 113) #[] #[], false)), (⟨#[105, 115, 32, 110, 111, 116]⟩, (.func (.func 113) #[] #[], true)), (⟨#[105, 110]⟩, (.func (.func 115) #[] #[], false)), (⟨#[110, 111, 116, 32, 105, 110]⟩, (.func (.func 115) #[] #[], true)), (⟨#[60]⟩, (ordV (m + 1), false)), (⟨#[60, 61]⟩, (ordV (m + 3), false)), (⟨#[62]⟩, (ordV (m + 5), false))]) 6 T rfl ⟨#[62]⟩ (by decide) (ordV (m + 5)) false rfl rfl
 replace z : W9.heap.size = m + 7 := by omega
 have K := Lib.hid (order_ok T (m + 7) z false true)
 clear T z zz
 go_wp2_with fail
 refine K.out.mono ?_
 rintro e V9 ⟨rfl, T, zz⟩
 clear K r
 obtain ⟨W10, r, T, z⟩ := cmpPut (l' := [(⟨#[61, 61]⟩, (.func (.func 27) #[] #[], false)), (⟨#[33, 61]⟩, (.func (.func 27) #[] #[], true)), (⟨#[105, 115]⟩, (.func (.func 113) #[] #[], false)), (⟨#[105, 115, 32, 110, 111, 116]⟩, (.func (.func 113) #[] #[], true)), (⟨#[105, 110]⟩, (.func (.func 115) #[] #[], false)), (⟨#[110, 111, 116, 32, 105, 110]⟩, (.func (.func 115) #[] #[], true)), (⟨#[60]⟩, (ordV (m + 1), false)), (⟨#[60, 61]⟩, (ordV (m + 3), false)), (⟨#[62]⟩, (ordV (m + 5), false)), (⟨#[62, 61]⟩, (ordV (m + 7), false))]) 8 T rfl ⟨#[62, 61]⟩ (by decide) (ordV (m + 7)) false rfl rfl
 replace T : Sep w (boxR (m + 7 + 1) (.cells #[.bool true] 4) :: boxR (m + 7) (.cells #[.bool false] 4) :: boxR (m + 5 + 1) (.cells #[.bool false] 4) :: boxR (m + 5) (.cells #[.bool false] 4) :: boxR (m + 3 + 1) (.cells #[.bool true] 4) :: boxR (m + 3) (.cells #[.bool true] 4) :: boxR (m + 1 + 1) (.cells #[.bool false] 4) :: boxR (m + 1) (.cells #[.bool true] 4) :: cmpR m (cmpTab m) :: boxE (b + 1 + 1 + 1) :: boxZ (b + 1 + 1) :: boxV (b + 1) y :: boxV b x :: Rs) W10 := T
 obtain ⟨kl, hkl⟩ := keyOfS op hops
 have LK := (T.mapLook 8 rfl).look ekS_inj keyS_ Tryz.underlying133 (Tryz.zeroValue130 W10) hkl true
 rw [HI.out.2.1 m] at LK
 replace LK : (Instr.lookup 133 (.map (some m)) (.string op) true).run Tryz.prog W10 = .ok (.tuple #[.agg #[.func (.func 27) #[] #[], .bool nt], .bool true]) W10 := LK
 obtain ⟨c, hc⟩ : ∃ gx_, (W10.heap.size) = gx_ := ⟨_, rfl⟩
 have S := T.alloc (.cells #[.func (.func 27) #[] #[], .bool nt] 130)
 rw [hc] at S
 clear T z zz
 obtain ⟨d00, d01, d02⟩ := wpVal x (S.box (b := b) 13 rfl)
 obtain ⟨d10, d11, d12⟩ := wpVal y (S.box (b := b + 1) 12 rfl)
 have k0 := cellAt (S.box (b := c) 0 rfl) 0 (v := .func (.func 27) #[] #[]) rfl
 have k1 := cellAt (S.box (b := c) 0 rfl) 1 (v := .bool nt) rfl
 have M := Lib.hid (KD (i + 14) S (by simpa using HI.out.1))
 have HCC := Lib.hid hc
 clear S hc KD
 go_wp2_with fail
 try simp only [HCC.out]
 refine M.out.mono ?_
 rintro e w3 ⟨rfl, S⟩
 clear M LK r hkl d00 d01 d02 d10 d11 d12 k0 k1 HCC
 cases q with
 | ok r =>
  obtain ⟨g, hg⟩ : ∃ gx_, (w3.heap.size) = gx_ := ⟨_, rfl⟩
  replace S := S.alloc (.cells #[.string ⟨#[]⟩, .int .i64 0, .int .i64 0, .string ⟨#[]⟩, .bool false] 33)
  rw [hg] at S
  have HG := Lib.hid hg
  clear hg
  simp only [CmpRes.val]
  have k1 := cellAt (S.box (b := c) 1 rfl) 1 (v := .bool nt) rfl
  obtain ⟨dd, hdd⟩ : ∃ dd, (r == nt) = dd := ⟨_, rfl⟩
  have HDD : Hid ((r != nt) = !dd) := Lib.hid (by rw [← hdd]; rfl)
  cases dd with
  | true =>
   have M : Hid (Calls Tryz.prog 117 #[.bool false] (w3.alloc (.cells #[.string ⟨#[]⟩, .int .i64 0, .int .i64 0, .string ⟨#[]⟩, .bool false] 33)) fun e W' => e = .returned (.agg #[.int .i64 1, .int .i64 0, .string ⟨#[]⟩]) ∧ Sep w (boxE g :: boxR c (.cells #[.func (.func 27) #[] #[], .bool nt] 130) :: boxR (m + 7 + 1) (.cells #[.bool true] 4) :: boxR (m + 7) (.cells #[.bool false] 4) :: boxR (m + 5 + 1) (.cells #[.bool false] 4) :: boxR (m + 5) (.cells #[.bool false] 4) :: boxR (m + 3 + 1) (.cells #[.bool true] 4) :: boxR (m + 3) (.cells #[.bool true] 4) :: boxR (m + 1 + 1) (.cells #[.bool false] 4) :: boxR (m + 1) (.cells #[.bool true] 4) :: cmpR m (cmpTab m) :: boxE (b + 1 + 1 + 1) :: boxZ (b + 1 + 1) :: boxV (b + 1) y :: boxV b x :: Rs) W') := Lib.hid ((yes_ok _ false).mono fun e W' hh => ⟨hh.1, S.later hh.2⟩)
   clear S
   go_wp2_with fail
   try simp only [HG.out]
   refine M.out.mono ?_
   rintro e w4 ⟨rfl, S⟩
   clear M k1 hdd
   have hz := S.box (b := b + 1 + 1 + 1) 11 rfl
   have z0 := cellAt hz 0 (v := .string ⟨#[]⟩) rfl
   have z1 := cellAt hz 1 (v := .int .i64 0) rfl
   have z2 := cellAt hz 2 (v := .int .i64 0) rfl
   have z3 := cellAt hz 3 (v := .string ⟨#[]⟩) rfl
   have z4 := cellAt hz 4 (v := .bool false) rfl
   have z5 := frozenAt hz 0
   have z6 := frozenAt hz 1
   have z7 := frozenAt hz 2
   have z8 := frozenAt hz 3
   have z9 := frozenAt hz 4
   have hv := S.box (b := b + 1 + 1) 12 rfl
   have v0 := cellAt hv 0 (v := .int .i64 0) rfl
   have v1 := cellAt hv 1 (v := .int .i64 0) rfl
   have v2 := cellAt hv 2 (v := .string ⟨#[]⟩) rfl
   have v3 := frozenAt hv 0
   have v4 := frozenAt hv 1
   have v5 := frozenAt hv 2
   have S9 := Lib.hid ((S.toAny (q := b + 1 + 1 + 1) 11 rfl).toAny (q := b + 1 + 1) 12 rfl)
   have FR : Hid (∀ W', Sep w (boxE g :: boxR c (.cells #[.func (.func 27) #[] #[], .bool nt] 130) :: boxR (m + 7 + 1) (.cells #[.bool true] 4) :: boxR (m + 7) (.cells #[.bool false] 4) :: boxR (m + 5 + 1) (.cells #[.bool false] 4) :: boxR (m + 5) (.cells #[.bool false] 4) :: boxR (m + 3 + 1) (.cells #[.bool true] 4) :: boxR (m + 3) (.cells #[.bool true] 4) :: boxR (m + 1 + 1) (.cells #[.bool false] 4) :: boxR (m + 1) (.cells #[.bool true] 4) :: cmpR m (cmpTab m) :: anyR (b + 1 + 1 + 1) :: anyR (b + 1 + 1) :: boxV (b + 1) y :: boxV b x :: Rs) W' → Sep w Rs W') := Lib.hid fun W' T => T.tail.tail.tail.tail.tail.tail.tail.tail.tail.tail.tail.tail.tail.tail.tail
   clear S hz hv
   go_wp2
   refine bodyPost_ret (v := .tuple #[.agg #[.int .i64 1, .int .i64 0, .string ⟨#[]⟩], excZ]) ?_ ?_ ?_
   ·
    simp [results, Tryz.results25, go_sem, z0, z1, z2, z3, z4, v0, v1, v2]
   ·
    rfl
   refine ⟨by unfold cmpV; simp only [HDD.out]; rfl, FR.out _ ?_⟩
   iterate 5 refine Sep.poke (q := b + 1 + 1 + 1) ?_ 11 rfl _ _
   iterate 3 refine Sep.poke (q := b + 1 + 1) ?_ 12 rfl _ _
   exact S9.out
  | false =>
   have M : Hid (Calls Tryz.prog 117 #[.bool true] (w3.alloc (.cells #[.string ⟨#[]⟩, .int .i64 0, .int .i64 0, .string ⟨#[]⟩, .bool false] 33)) fun e W' => e = .returned (.agg #[.int .i64 1, .int .i64 1, .string ⟨#[]⟩]) ∧ Sep w (boxE g :: boxR c (.cells #[.func (.func 27) #[] #[], .bool nt] 130) :: boxR (m + 7 + 1) (.cells #[.bool true] 4) :: boxR (m + 7) (.cells #[.bool false] 4) :: boxR (m + 5 + 1) (.cells #[.bool false] 4) :: boxR (m + 5) (.cells #[.bool false] 4) :: boxR (m + 3 + 1) (.cells #[.bool true] 4) :: boxR (m + 3) (.cells #[.bool true] 4) :: boxR (m + 1 + 1) (.cells #[.bool false] 4) :: boxR (m + 1) (.cells #[.bool true] 4) :: cmpR m (cmpTab m) :: boxE (b + 1 + 1 + 1) :: boxZ (b + 1 + 1) :: boxV (b + 1) y :: boxV b x :: Rs) W') := Lib.hid ((yes_ok _ true).mono fun e W' hh => ⟨hh.1, S.later hh.2⟩)
   clear S
   go_wp2_with fail
   try simp only [HG.out]
   refine M.out.mono ?_
   rintro e w4 ⟨rfl, S⟩
   clear M k1 hdd
   have hz := S.box (b := b + 1 + 1 + 1) 11 rfl
   have z0 := cellAt hz 0 (v := .string ⟨#[]⟩) rfl
   have z1 := cellAt hz 1 (v := .int .i64 0) rfl
   have z2 := cellAt hz 2 (v := .int .i64 0) rfl
   have z3 := cellAt hz 3 (v := .string ⟨#[]⟩) rfl
   have z4 := cellAt hz 4 (v := .bool false) rfl
   have z5 := frozenAt hz 0
   have z6 := frozenAt hz 1
   have z7 := frozenAt hz 2
   have z8 := frozenAt hz 3
   have z9 := frozenAt hz 4
   have hv := S.box (b := b + 1 + 1) 12 rfl
   have v0 := cellAt hv 0 (v := .int .i64 0) rfl
   have v1 := cellAt hv 1 (v := .int .i64 0) rfl
   have v2 := cellAt hv 2 (v := .string ⟨#[]⟩) rfl
   have v3 := frozenAt hv 0
   have v4 := frozenAt hv 1
   have v5 := frozenAt hv 2
   have S9 := Lib.hid ((S.toAny (q := b + 1 + 1 + 1) 11 rfl).toAny (q := b + 1 + 1) 12 rfl)
   have FR : Hid (∀ W', Sep w (boxE g :: boxR c (.cells #[.func (.func 27) #[] #[], .bool nt] 130) :: boxR (m + 7 + 1) (.cells #[.bool true] 4) :: boxR (m + 7) (.cells #[.bool false] 4) :: boxR (m + 5 + 1) (.cells #[.bool false] 4) :: boxR (m + 5) (.cells #[.bool false] 4) :: boxR (m + 3 + 1) (.cells #[.bool true] 4) :: boxR (m + 3) (.cells #[.bool true] 4) :: boxR (m + 1 + 1) (.cells #[.bool false] 4) :: boxR (m + 1) (.cells #[.bool true] 4) :: cmpR m (cmpTab m) :: anyR (b + 1 + 1 + 1) :: anyR (b + 1 + 1) :: boxV (b + 1) y :: boxV b x :: Rs) W' → Sep w Rs W') := Lib.hid fun W' T => T.tail.tail.tail.tail.tail.tail.tail.tail.tail.tail.tail.tail.tail.tail.tail
   clear S hz hv
   go_wp2
   refine bodyPost_ret (v := .tuple #[.agg #[.int .i64 1, .int .i64 1, .string ⟨#[]⟩], excZ]) ?_ ?_ ?_
   ·
    simp [results, Tryz.results25, go_sem, z0, z1, z2, z3, z4, v0, v1, v2]
   ·
    rfl
   refine ⟨by unfold cmpV; simp only [HDD.out]; rfl, FR.out _ ?_⟩
   iterate 5 refine Sep.poke (q := b + 1 + 1 + 1) ?_ 11 rfl _ _
   iterate 3 refine Sep.poke (q := b + 1 + 1) ?_ 12 rfl _ _
   exact S9.out
 | type =>
  obtain ⟨g, hg⟩ : ∃ gx_, (w3.heap.size) = gx_ := ⟨_, rfl⟩
  replace S := S.alloc (.cells #[.string typeError, .int .i64 0, .int .i64 0, .string ⟨#[]⟩, .bool false] 33)
  rw [hg] at S
  have HG := Lib.hid hg
  clear hg
  simp only [CmpRes.val]
  refine useR5 (S.box (b := g) (o := objN typeError) 0 rfl) fun e0 e1 e2 e3 e4 => ?_
  have n1 : g ≠ b + 1 + 1 := by
   intro e
   have h1 := S.box (b := g) 0 rfl
   have h2 := S.box (b := b + 1 + 1) 12 rfl
   rw [e] at h1
   have := h1.symm.trans h2
   simp at this
  have n2 : g ≠ b + 1 + 1 + 1 := by
   intro e
   have h1 := S.box (b := g) 0 rfl
   have h2 := S.box (b := b + 1 + 1 + 1) 11 rfl
   rw [e] at h1
   have := h1.symm.trans h2
   simp at this
  have n3 := Ne.symm n1
  have n4 := Ne.symm n2
  have hz := S.box (b := b + 1 + 1 + 1) 11 rfl
  have z0 := cellAt hz 0 (v := .string ⟨#[]⟩) rfl
  have z1 := cellAt hz 1 (v := .int .i64 0) rfl
  have z2 := cellAt hz 2 (v := .int .i64 0) rfl
  have z3 := cellAt hz 3 (v := .string ⟨#[]⟩) rfl
  have z4 := cellAt hz 4 (v := .bool false) rfl
  have z5 := frozenAt hz 0
  have z6 := frozenAt hz 1
  have z7 := frozenAt hz 2
  have z8 := frozenAt hz 3
  have z9 := frozenAt hz 4
  have hv := S.box (b := b + 1 + 1) 12 rfl
  have v0 := cellAt hv 0 (v := .int .i64 0) rfl
  have v1 := cellAt hv 1 (v := .int .i64 0) rfl
  have v2 := cellAt hv 2 (v := .string ⟨#[]⟩) rfl
  have v3 := frozenAt hv 0
  have v4 := frozenAt hv 1
  have v5 := frozenAt hv 2
  have S9 := Lib.hid ((S.toAny (q := b + 1 + 1 + 1) 11 rfl).toAny (q := b + 1 + 1) 12 rfl)
  have FR : Hid (∀ W', Sep w (boxN g typeError :: boxR c (.cells #[.func (.func 27) #[] #[], .bool nt] 130) :: boxR (m + 7 + 1) (.cells #[.bool true] 4) :: boxR (m + 7) (.cells #[.bool false] 4) :: boxR (m + 5 + 1) (.cells #[.bool false] 4) :: boxR (m + 5) (.cells #[.bool false] 4) :: boxR (m + 3 + 1) (.cells #[.bool true] 4) :: boxR (m + 3) (.cells #[.bool true] 4) :: boxR (m + 1 + 1) (.cells #[.bool false] 4) :: boxR (m + 1) (.cells #[.bool true] 4) :: cmpR m (cmpTab m) :: anyR (b + 1 + 1 + 1) :: anyR (b + 1 + 1) :: boxV (b + 1) y :: boxV b x :: Rs) W' → Sep w Rs W') := Lib.hid fun W' T => T.tail.tail.tail.tail.tail.tail.tail.tail.tail.tail.tail.tail.tail.tail.tail
  clear S hz hv
  go_wp2
  try simp only [HG.out]
  go_region
  go_wp2
  refine bodyPost_ret (v := .tuple #[zeroV, excN typeError]) ?_ ?_ ?_
  ·
   simp [results, Tryz.results25, go_sem, z0, z1, z2, z3, z4, v0, v1, v2]
  ·
   rfl
  refine ⟨rfl, FR.out _ (Sep.drew ?_)⟩
  iterate 5 refine Sep.poke (q := b + 1 + 1 + 1) ?_ 11 rfl _ _
  iterate 3 refine Sep.poke (q := b + 1 + 1) ?_ 12 rfl _ _
  exact S9.out
 | deep =>
  obtain ⟨g, hg⟩ : ∃ gx_, (w3.heap.size) = gx_ := ⟨_, rfl⟩
  replace S := S.alloc (.cells #[.string recursionError, .int .i64 0, .int .i64 0, .string ⟨#[]⟩, .bool false] 33)
  rw [hg] at S
  have HG := Lib.hid hg
  clear hg
  simp only [CmpRes.val]
  refine useR5 (S.box (b := g) (o := objN recursionError) 0 rfl) fun e0 e1 e2 e3 e4 => ?_
  have n1 : g ≠ b + 1 + 1 := by
   intro e
   have h1 := S.box (b := g) 0 rfl
   have h2 := S.box (b := b + 1 + 1) 12 rfl
   rw [e] at h1
   have := h1.symm.trans h2
   simp at this
  have n2 : g ≠ b + 1 + 1 + 1 := by
   intro e
   have h1 := S.box (b := g) 0 rfl
   have h2 := S.box (b := b + 1 + 1 + 1) 11 rfl
   rw [e] at h1
   have := h1.symm.trans h2
   simp at this
  have n3 := Ne.symm n1
  have n4 := Ne.symm n2
  have hz := S.box (b := b + 1 + 1 + 1) 11 rfl
  have z0 := cellAt hz 0 (v := .string ⟨#[]⟩) rfl
  have z1 := cellAt hz 1 (v := .int .i64 0) rfl
  have z2 := cellAt hz 2 (v := .int .i64 0) rfl
  have z3 := cellAt hz 3 (v := .string ⟨#[]⟩) rfl
  have z4 := cellAt hz 4 (v := .bool false) rfl
  have z5 := frozenAt hz 0
  have z6 := frozenAt hz 1
  have z7 := frozenAt hz 2
  have z8 := frozenAt hz 3
  have z9 := frozenAt hz 4
  have hv := S.box (b := b + 1 + 1) 12 rfl
  have v0 := cellAt hv 0 (v := .int .i64 0) rfl
  have v1 := cellAt hv 1 (v := .int .i64 0) rfl
  have v2 := cellAt hv 2 (v := .string ⟨#[]⟩) rfl
  have v3 := frozenAt hv 0
  have v4 := frozenAt hv 1
  have v5 := frozenAt hv 2
  have S9 := Lib.hid ((S.toAny (q := b + 1 + 1 + 1) 11 rfl).toAny (q := b + 1 + 1) 12 rfl)
  have FR : Hid (∀ W', Sep w (boxN g recursionError :: boxR c (.cells #[.func (.func 27) #[] #[], .bool nt] 130) :: boxR (m + 7 + 1) (.cells #[.bool true] 4) :: boxR (m + 7) (.cells #[.bool false] 4) :: boxR (m + 5 + 1) (.cells #[.bool false] 4) :: boxR (m + 5) (.cells #[.bool false] 4) :: boxR (m + 3 + 1) (.cells #[.bool true] 4) :: boxR (m + 3) (.cells #[.bool true] 4) :: boxR (m + 1 + 1) (.cells #[.bool false] 4) :: boxR (m + 1) (.cells #[.bool true] 4) :: cmpR m (cmpTab m) :: anyR (b + 1 + 1 + 1) :: anyR (b + 1 + 1) :: boxV (b + 1) y :: boxV b x :: Rs) W' → Sep w Rs W') := Lib.hid fun W' T => T.tail.tail.tail.tail.tail.tail.tail.tail.tail.tail.tail.tail.tail.tail.tail
  clear S hz hv
  go_wp2
  try simp only [HG.out]
  go_region
  go_wp2
  refine bodyPost_ret (v := .tuple #[zeroV, excN recursionError]) ?_ ?_ ?_
  ·
   simp [results, Tryz.results25, go_sem, z0, z1, z2, z3, z4, v0, v1, v2]
  ·
   rfl
  refine ⟨rfl, FR.out _ (Sep.drew ?_)⟩
  iterate 5 refine Sep.poke (q := b + 1 + 1 + 1) ?_ 11 rfl _ _
  iterate 3 refine Sep.poke (q := b + 1 + 1) ?_ 12 rfl _ _
  exact S9.out
end
end Go.Proofs.YtijlebhoapdfnaaGreat
