/- What the laws of the disk call: pick, asked, lives; two disks side by side. -/
import Derived.Test.YtnfklomokjhojaaGreatDoorDiskA6
import Derived.Test.YtnfklomokjhojaaGreatDoorDqs
namespace Go.Proofs.YtnfklomokjhojaaGreatDoor
open Go.RowKit Go.Maps
set_option linter.unusedSimpArgs false
set_option linter.unusedVariables false
theorem pickI_range (c n : Int) (hn : 0 < n) : 0 ≤ Disk.pickI c n ∧ Disk.pickI c n < n := by
  unfold Disk.pickI
  have h : 0 ≤ (if c < 0 then -(c + 1) else c) := by split <;> omega
  exact ⟨Int.tmod_nonneg _ h, Int.tmod_lt_of_pos _ hn⟩
set_option maxHeartbeats 1000000 in
set_option maxRecDepth 100000 in
theorem pick01_any (c n : Int) (hc : -9223372036854775808 ≤ c ∧ c ≤ 9223372036854775807) (hn : 0 < n) (hn2 : n ≤ 1000) (w : World) :
    Calls Tryz.prog 20 #[.int .i64 c, .int .i64 n] w fun e w' => e = .returned (.int .i64 (Disk.pickI c n)) ∧ w' = w := by
  have hr := pickI_range c n hn
  have hP : Hid (Disk.pickI c n = (if c < 0 then -(c + 1) else c).tmod n) := Lib.hid rfl
  have hn0 : (n == 0) = false := beq_eq_false_iff_ne.2 (by omega)
  have hn1 : n ≠ 0 := by omega
  by_cases h0 : c < 0
  · have w1 : IntKind.i64.wrap (c + 1) = c + 1 := IntWalk.i64_in _ (by omega)
    have w2 : IntKind.i64.wrap (-(c + 1)) = -(c + 1) := IntWalk.i64_in _ (by omega)
    have HF : Hid ((-(c + 1)).tmod n = Disk.pickI c n) := Lib.hid (by rw [hP.out, if_pos h0])
    have w3 : IntKind.i64.wrap ((-(c + 1)).tmod n) = (-(c + 1)).tmod n := IntWalk.i64_in _ (by rw [HF.out]; omega)
    clear hr
    go_enter Tryz.func20, Tryz.ntmps20
    go_wp2
    go_returns
    exact ⟨by rw [← HF.out, Int.neg_tmod] <;> rfl, rfl⟩
  · have HF : Hid (c.tmod n = Disk.pickI c n) := Lib.hid (by rw [hP.out, if_neg h0])
    have w3 : IntKind.i64.wrap (c.tmod n) = c.tmod n := IntWalk.i64_in _ (by rw [HF.out]; omega)
    clear hr
    go_enter Tryz.func20, Tryz.ntmps20
    go_wp2
    go_returns
    exact ⟨by rw [← HF.out, Int.tmod_eq_emod_of_nonneg (by omega)] <;> rfl, rfl⟩
theorem AskPost.ahead {w w1 w' : World} {B : Nat} {O : Nat → Prop} {sd n : Nat} {r : Int × Disk.S} {e : Ending} (hb : Below w.heap.size w w1) (h : AskPost w1 B O sd n r e w') : AskPost w B O sd n r e w' := ⟨h.1, DskNow.ahead (Keeps.of_below hb) h.2⟩
/-- What is asked, as a value. -/
def dqVal (k : Int) (x : Disk.Dq) : Value := .agg #[.int .i64 k, .string (bs x.path), .string (bs x.to), .string (bs x.data), .int .i64 x.n]
set_option maxHeartbeats 4000000 in
set_option maxRecDepth 100000 in
theorem asked_any {w : World} {B : Nat} {O : Nat → Prop} {sd n : Nat} {s : Disk.S} (h : Dsk w B O sd n s) (hE : Env w) (hn : n ≤ 1099511627776) (k : Int) (x : Disk.Dq) (hp : x.path.length ≤ 4398046511104) (hq : x.to.length ≤ 4398046511104) :
    Calls Tryz.prog 29 #[.pointer (some ⟨sd, 0, none⟩), .agg #[.int .i64 k, .string (bs x.path), .string (bs x.to), .string (bs x.data), .int .i64 x.n]] w (AskPost w B O sd n (s.asked k x)) := by
  have hb : Below w.heap.size w (w.alloc (.cells #[.int .i64 k, .string (bs x.path), .string (bs x.to), .string (bs x.data), .int .i64 x.n] 29)) := (Below.refl _ w).alloc (Nat.le_refl _) _
  have hB : B ≤ w.heap.size := by
    obtain ⟨bm, m, rv, _, h⟩ := h
    have := h.lim sd h.os
    omega
  have HP := Lib.hid (fun r e w' (h : AskPost (w.alloc (.cells #[.int .i64 k, .string (bs x.path), .string (bs x.to), .string (bs x.data), .int .i64 x.n] 29)) B O sd n r e w') => AskPost.ahead hb h)
  have H := Lib.hid (h.below hb)
  have HE := Lib.hid (hE.below hb (Nat.le_refl _))
  have hsz := hb.size
  have HQ := Lib.hid (Disk.asked_eq s k x)
  obtain ⟨R, hR⟩ : ∃ R, R = s.asked k x := ⟨_, rfl⟩
  rw [← hR] at HQ ⊢
  have hz : (w.alloc (.cells #[.int .i64 k, .string (bs x.path), .string (bs x.to), .string (bs x.data), .int .i64 x.n] 29)).heap.size = w.heap.size + 1 := by simp
  obtain ⟨W, hW⟩ : ∃ W, W = w.alloc (.cells #[.int .i64 k, .string (bs x.path), .string (bs x.to), .string (bs x.data), .int .i64 x.n] 29) := ⟨_, rfl⟩
  have g0 : W.cell? ⟨w.heap.size, 0, none⟩ = some (.int .i64 k) := by rw [hW]; simp
  have g1 : W.cell? ⟨w.heap.size, 1, none⟩ = some (.string (bs x.path)) := by rw [hW]; simp
  have g2 : W.cell? ⟨w.heap.size, 2, none⟩ = some (.string (bs x.to)) := by rw [hW]; simp
  have g3 : W.cell? ⟨w.heap.size, 3, none⟩ = some (.string (bs x.data)) := by rw [hW]; simp
  rw [← hW] at H HE HP hsz hz
  clear h hE hb hR
  by_cases h0 : k = 0
  · have HF : Hid (R = s.mkdir x.path) := Lib.hid (by rw [HQ.out, if_pos h0])
    have HC := Lib.hid (mkdir_any H.out HE.out hn x.path hp)
    rw [← HF.out] at HC
    subst h0
    go_enter Tryz.func29, Tryz.ntmps29
    go_wp2_with fail
    rw [← hW]
    refine HC.out.mono ?_
    rintro e w1 hpost
    have he := hpost.1
    subst he
    have HPO := Lib.hid (HP.out _ _ _ hpost)
    clear hpost
    go_wp2
    go_returns
    exact HPO.out
  have q0 : (k == 0) = false := beq_eq_false_iff_ne.2 h0
  by_cases h1 : k = 1
  · have HF : Hid (R = s.write x.path x.data) := Lib.hid (by rw [HQ.out, if_neg h0, if_pos h1])
    have HC := Lib.hid (write_any H.out HE.out hn x.path x.data hp)
    rw [← HF.out] at HC
    subst h1
    clear h0
    go_enter Tryz.func29, Tryz.ntmps29
    go_wp2_with fail
    rw [← hW]
    refine HC.out.mono ?_
    rintro e w1 hpost
    have he := hpost.1
    subst he
    have HPO := Lib.hid (HP.out _ _ _ hpost)
    clear hpost
    go_wp2
    go_returns
    exact HPO.out
  have q1 : (k == 1) = false := beq_eq_false_iff_ne.2 h1
  by_cases h2 : k = 2
  · have HF : Hid (R = s.rename x.path x.to) := Lib.hid (by rw [HQ.out, if_neg h0, if_neg h1, if_pos h2])
    have HC := Lib.hid (rename_any H.out HE.out (by omega) hn x.path x.to hp hq)
    rw [← HF.out] at HC
    subst h2
    clear h0 h1
    go_enter Tryz.func29, Tryz.ntmps29
    go_wp2_with fail
    rw [← hW]
    refine HC.out.mono ?_
    rintro e w1 hpost
    have he := hpost.1
    subst he
    have HPO := Lib.hid (HP.out _ _ _ hpost)
    clear hpost
    go_wp2
    go_returns
    exact HPO.out
  · have q2 : (k == 2) = false := beq_eq_false_iff_ne.2 h2
    have HF : Hid (R = s.remove x.path) := Lib.hid (by rw [HQ.out, if_neg h0, if_neg h1, if_neg h2])
    have HC := Lib.hid (remove_any H.out HE.out hn x.path hp)
    rw [← HF.out] at HC
    clear h0 h1 h2
    go_enter Tryz.func29, Tryz.ntmps29
    go_wp2_with fail
    rw [← hW]
    refine HC.out.mono ?_
    rintro e w1 hpost
    have he := hpost.1
    subst he
    have HPO := Lib.hid (HP.out _ _ _ hpost)
    clear hpost
    go_wp2
    go_returns
    exact HPO.out
def live1S : Disk.S := ⟨[([47, 97], ⟨true, []⟩)], [⟨1, [47, 97], []⟩], -1⟩
def live2S : Disk.S := ⟨[([47, 97], ⟨true, []⟩), ([47, 97, 47, 102], ⟨false, [120]⟩)], [⟨1, [47, 97], []⟩, ⟨2, [47, 97, 47, 102], []⟩], -1⟩
theorem live01a : newS.mkdir [47, 97] = (0, live1S) := by decide +kernel
theorem live01b : live1S.write [47, 97, 47, 102] [120] = (0, live2S) := by decide +kernel
theorem live01c : Disk.readR live2S.l [47, 97, 47, 102] = ([120], 0) := by decide +kernel
theorem live01d : Disk.kind live2S.l [47, 97] = 2 := by decide +kernel
theorem DskNow.at {w w' : World} {B : Nat} {O : Nat → Prop} {sd n : Nat} {s : Disk.S} (h : DskNow w w' B O sd n s) (hO : ∀ k, O k → B ≤ k) (hB : B ≤ w.heap.size) : Below B w w' := h.keeps.to_below hO hB
set_option maxHeartbeats 2000000 in
set_option maxRecDepth 100000 in
theorem lives01_any (w : World) (hE : Env w) : Calls Tryz.prog 19 #[] w fun e w' => e = .returned (.bool true) ∧ Below w.heap.size w w' := by
  have HE := Lib.hid (fun (W : World) (hb : Below w.heap.size w W) => hE.below hb (Nat.le_refl _))
  clear hE
  go_enter Tryz.func19, Tryz.ntmps19
  go_wp2_with fail
  refine (newD_any w w.heap.size (Nat.le_refl _)).mono ?_
  rintro e w1 ⟨sd, O1, rfl, hd1, hO1, hb1⟩
  have HB1 := Lib.hid hb1
  have HD1 := Lib.hid (mkdir_any hd1 (HE.out _ hb1) (by decide) [47, 97] (by decide))
  have HL1 := Lib.hid hd1.lim
  clear hd1 hO1 hb1
  go_wp2_with fail
  refine HD1.out.mono ?_
  rintro e w2 ⟨rfl, ⟨O2, hd2, hO2⟩, hk2⟩
  rw [live01a] at hd2 ⊢
  have HB2 := Lib.hid (HB1.out.trans (hk2.to_below (fun k hk => (HL1.out k hk).1) HB1.out.size))
  have HD2 := Lib.hid (write_any hd2 (HE.out _ HB2.out) (by decide) [47, 97, 47, 102] [120] (by decide))
  have HL2 := Lib.hid hd2.lim
  clear hd2 hO2 hk2
  go_wp2_with fail
  refine HD2.out.mono ?_
  rintro e w3 ⟨rfl, ⟨O3, hd3, hO3⟩, hk3⟩
  rw [live01b] at hd3 ⊢
  have HB3 := Lib.hid (HB2.out.trans (hk3.to_below (fun k hk => (HL2.out k hk).1) HB2.out.size))
  obtain ⟨bm, m, rv, hm, hd⟩ := hd3
  have HD := Lib.hid hd
  have HR3 := Lib.hid (read_disk hd.d.c0 hd.d.things (HE.out _ HB3.out) [47, 97, 47, 102] (by decide))
  rw [live01c] at HR3
  clear hd hm hO3 hk3
  go_wp2_with fail
  have hq : ((bs [120]).toList == ([120] : List UInt8)) = true := by rw [bs_toList]; rfl
  refine HR3.out.mono ?_
  rintro e w4 ⟨rfl, hb4⟩
  have HB4 := Lib.hid (HB3.out.trans (hb4.mono HB3.out.size))
  have HD4 := Lib.hid (HD.out.below hb4)
  have HK4 := Lib.hid (kind_any HD4.out.d.c0 HD4.out.d.things (bs [47, 97]) (bs_small (by decide)))
  rw [bs_list, live01d] at HK4
  clear hb4
  go_wp2_with fail
  refine HK4.out.mono ?_
  rintro e w5 ⟨rfl, hb5⟩
  have HB5 := Lib.hid (HB4.out.trans (hb5.mono HB4.out.size))
  have HD5 := Lib.hid (told_raws (HD4.out.below hb5) (by decide))
  clear hb5
  go_wp2_with fail
  refine HD5.out.mono ?_
  rintro e w6 ⟨v6, rfl, hr6, hb6⟩
  obtain ⟨a6, c6, rfl⟩ := own_form hr6
  have HB6 := Lib.hid (HB5.out.trans (hb6.mono HB5.out.size))
  have hlen : live2S.raws.length = 2 := rfl
  rw [hlen]
  clear hr6 hb6
  go_wp2
  go_returns
  exact ⟨rfl, HB6.out⟩
/-- Two disks side by side, and blocks Z that are neither's. -/
def Two (w : World) (B : Nat) (Z : Nat → Prop) (sa sb n : Nat) (a b : Disk.S) : Prop := ∃ OA OB, Dsk w B OA sa n a ∧ Dsk w B OB sb n b ∧ (∀ k, OA k → ¬ OB k) ∧ ∀ k, Z k → ¬ OA k ∧ ¬ OB k ∧ k < w.heap.size
theorem Two.swap {w : World} {B : Nat} {Z : Nat → Prop} {sa sb n : Nat} {a b : Disk.S} (h : Two w B Z sa sb n a b) : Two w B Z sb sa n b a := by
  obtain ⟨OA, OB, h1, h2, h3, h4⟩ := h
  exact ⟨OB, OA, h2, h1, fun k hk hk2 => h3 k hk2 hk, fun k hk => ⟨(h4 k hk).2.1, (h4 k hk).1, (h4 k hk).2.2⟩⟩
theorem Dsk.base {w : World} {B : Nat} {O : Nat → Prop} {sd n : Nat} {s : Disk.S} (h : Dsk w B O sd n s) : B ≤ w.heap.size := by
  obtain ⟨bm, m, rv, _, h⟩ := h
  have := h.lim sd h.os
  omega
theorem Two.act {P : Program} {f : FuncId} {args : Array Value} {Q : Ending → Prop} {w : World} {B : Nat} {Z : Nat → Prop} {sa sb n n' : Nat} {a b a' : Disk.S} (h : Two w B Z sa sb n a b) (hn : n ≤ n')
    (hc : ∀ O, Dsk w B O sa n a → Calls P f args w fun e w' => Q e ∧ DskNow w w' B O sa n' a') : Calls P f args w fun e w' => Q e ∧ Two w' B Z sa sb n' a' b ∧ Below B w w' ∧ ∀ k, Z k → w'.heap[k]? = w.heap[k]? := by
  obtain ⟨OA, OB, h1, h2, h3, h4⟩ := h
  refine (hc OA h1).mono ?_
  rintro e w' ⟨he, ⟨O', k1, k2⟩, k3⟩
  refine ⟨he, ⟨O', OB, k1, (h2.keeps k3 (fun k hb ha => h3 k ha hb)).more hn, fun k hk hb => ?_, fun k hk => ⟨fun hk2 => ?_, (h4 k hk).2.1, Nat.lt_of_lt_of_le (h4 k hk).2.2 k3.size⟩⟩, k3.to_below (fun k hk => (h1.lim k hk).1) h1.base, fun k hk => k3.block k (h4 k hk).2.2 (h4 k hk).1⟩
  · rcases k2 k hk with hh | hh
    · exact h3 k hh hb
    · have := (h2.lim k hb).2; omega
  · rcases k2 k hk2 with hh | hh
    · exact (h4 k hk).1 hh
    · have := (h4 k hk).2.2; omega
theorem Two.below {w w' : World} {B : Nat} {Z : Nat → Prop} {sa sb n : Nat} {a b : Disk.S} (h : Two w B Z sa sb n a b) (hb : Below w.heap.size w w') : Two w' B Z sa sb n a b := by
  obtain ⟨OA, OB, h1, h2, h3, h4⟩ := h
  exact ⟨OA, OB, h1.below hb, h2.below hb, h3, fun k hk => ⟨(h4 k hk).1, (h4 k hk).2.1, Nat.lt_of_lt_of_le (h4 k hk).2.2 hb.size⟩⟩
/-- A block that has just been made is neither's. -/
theorem Two.fresh {w w' : World} {B : Nat} {Z : Nat → Prop} {sa sb n : Nat} {a b : Disk.S} (h : Two w B Z sa sb n a b) (hb : Below w.heap.size w w') : Two w' B (fun k => w.heap.size ≤ k ∧ k < w'.heap.size) sa sb n a b := by
  obtain ⟨OA, OB, h1, h2, h3, h4⟩ := h
  exact ⟨OA, OB, h1.below hb, h2.below hb, h3, fun k hk => ⟨fun hk2 => by have := (h1.lim k hk2).2; omega, fun hk2 => by have := (h2.lim k hk2).2; omega, hk.2⟩⟩
theorem Two.more {w : World} {B : Nat} {Z : Nat → Prop} {sa sb n n' : Nat} {a b : Disk.S} (h : Two w B Z sa sb n a b) (hn : n ≤ n') : Two w B Z sa sb n' a b := by
  obtain ⟨OA, OB, h1, h2, h3, h4⟩ := h
  exact ⟨OA, OB, h1.more hn, h2.more hn, h3, h4⟩
/-- A disk, and one that is made beside it. -/
theorem Two.made {w w' : World} {B : Nat} {sa sb n : Nat} {a b : Disk.S} {OA OB : Nat → Prop} (h1 : Dsk w B OA sa n a) (hb : Below w.heap.size w w') (h2 : Dsk w' B OB sb n b) (hO : ∀ k, OB k → w.heap.size ≤ k) : Two w' B (fun _ => False) sa sb n a b :=
  ⟨OA, OB, h1.below hb, h2, fun k ha hb2 => by have := (h1.lim k ha).2; have := hO k hb2; omega, fun k hk => hk.elim⟩
end Go.Proofs.YtnfklomokjhojaaGreatDoor
