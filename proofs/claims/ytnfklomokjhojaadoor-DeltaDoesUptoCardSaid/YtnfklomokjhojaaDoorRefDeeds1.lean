/- The document's deeds: what it calls: clear, at; two lists of deeds compared. -/
import Derived.Test.YtnfklomokjhojaaDoorRefLoad
import Derived.Test.YtnfklomokjhojaaDoorDeltaL
import Derived.Deep.QuietTactic
namespace Go.Proofs.YtnfklomokjhojaaDoor
open Go.RowKit
set_option linter.unusedSimpArgs false
set_option linter.unusedVariables false
theorem quietD {P : Program} {f : FuncId} {args : Array Value} {w : World} {m x : Nat} {v : Value}
    (h : Calls P f args (w.drewN (m + x)) fun e w' => e = .returned v ∧ ∃ k, w' = (w.drewN (m + x)).drewN k) : Calls P f args (w.drewN (m + x)) fun e w'' => e = .returned v ∧ ∃ n, w'' = w.drewN (m + n) :=
  h.mono fun _ _ ⟨he, k, hk⟩ => ⟨he, x + k, by rw [hk, World.drewN_drewN, Nat.add_assoc]⟩
theorem hasPrefix_take (p q : List UInt8) : Go.Lib.hasPrefix p q = decide (p.take q.length = q) := by
  unfold Go.Lib.hasPrefix
  rw [Bool.eq_iff_iff, List.isPrefixOf_iff_prefix, decide_eq_true_iff, List.prefix_iff_eq_take]
  exact eq_comm
theorem extract_take (s : ByteArray) (k : Nat) : (s.extract 0 k).data.toList = s.data.toList.take k := by simp [List.extract]
theorem str_lit9 (p : List UInt8) : ((bs (p.take 9)).toList == ([47, 106, 111, 117, 114, 110, 97, 108, 47] : List UInt8)) = Go.Lib.hasPrefix p (Disk.jour ++ [47]) := by
  rw [hasPrefix_take, bs_toList]
  by_cases h : p.take 9 = [47, 106, 111, 117, 114, 110, 97, 108, 47]
  · have e : decide (p.take (Disk.jour ++ [47]).length = Disk.jour ++ [47]) = true := decide_eq_true h
    rw [e, h]; rfl
  · rw [beq_eq_false_iff_ne.2 h, decide_eq_false (by exact h)]
set_option maxHeartbeats 2000000 in
set_option maxRecDepth 100000 in
theorem clear_any {w : World} {B : Nat} {v : Value} {fs : List Disk.Fl} (h : Files w B v fs) (hn : fs.length ≤ 4398046511104) (hsz : ∀ f ∈ fs, f.path.length ≤ 4398046511104) :
    Calls Tryd.prog 34 #[v] w fun e w' => e = .returned (.bool (!fs.any fun f => Disk.ours f.path)) ∧ w' = w := by
  obtain ⟨a1, c1, rfl⟩ := h.form
  obtain ⟨N, hN⟩ : ∃ N, N = fs.length := ⟨_, rfl⟩
  have HH := Lib.hid h
  have HSZ := Lib.hid hsz
  rw [← hN] at hn ⊢
  have HN := Lib.hid hN
  have HBAD : Hid (∀ f ∈ fs, Disk.ours f.path = true → (!fs.any fun f => Disk.ours f.path) = false) := Lib.hid (fun f hf h => by
    rw [List.any_eq_true.2 ⟨f, hf, h⟩]; rfl)
  have HOK : Hid ((∀ f ∈ fs, Disk.ours f.path = false) → (!fs.any fun f => Disk.ours f.path) = true) := Lib.hid (fun h => by
    rw [Bool.not_eq_true', List.any_eq_false]
    intro f hf
    rw [h f hf]; simp)
  obtain ⟨R, hR⟩ : ∃ R, R = !fs.any fun f => Disk.ours f.path := ⟨_, rfl⟩
  rw [← hR] at HBAD HOK ⊢
  clear h hsz hN hR
  go_enter Tryd.func34, Tryd.ntmps34
  go_wp2
  go_loopw [3] (fun p wr => ∃ i : Nat, p = .int .i64 i ∧ i ≤ N ∧ (∀ f ∈ fs.take i, Disk.ours f.path = false) ∧ wr = w) (fun p _ => N - (intOf p).toNat)
  case atStart => exact ⟨0, rfl, by omega, fun x hx => by simp at hx, rfl⟩
  case round =>
    obtain ⟨i, rfl, hi, hall, rfl⟩ := hrel
    have HALL := Lib.hid hall
    clear hall
    by_cases hiN : i < N
    · obtain ⟨f, hf⟩ : ∃ f, fs[i]? = some f := ⟨_, List.getElem?_eq_getElem (by have := HN.out; omega)⟩
      obtain ⟨bk, o, cap, hve, hbB, hbc⟩ := HH.out.at (by have := HN.out; omega)
      rw [← HN.out] at hve
      cases hve
      have e1 := (hbc i f hf).1
      have hfz := HSZ.out f (List.mem_of_getElem? hf)
      have HMEM := Lib.hid (List.mem_of_getElem? hf)
      have HNX : Hid (Disk.ours f.path = false → ∀ g ∈ fs.take (i + 1), Disk.ours g.path = false) := Lib.hid (fun h g hg => by
        rw [List.take_add_one, hf] at hg
        rcases List.mem_append.1 hg with hg | hg
        · exact HALL.out g hg
        · simp at hg; subst hg; exact h)
      have HB := Lib.hid (HBAD.out f HMEM.out)
      obtain ⟨p, hp⟩ : ∃ p, p = f.path := ⟨_, rfl⟩
      rw [← hp] at e1 hfz HNX HB
      clear hbc hf hp
      have hiI : (i : Int) < (N : Int) := by omega
      have hq := str_eq_lit (bs p) [47, 106, 111, 117, 114, 110, 97, 108]
      rw [bs_list] at hq
      have hs : (bs p).size = p.length := by show p.toArray.size = _; simp
      by_cases hj : p = Disk.jour
      · have HF := Lib.hid (HB.out (by unfold Disk.ours; rw [decide_eq_true hj]; rfl))
        rw [decide_eq_true (show p = [47, 106, 111, 117, 114, 110, 97, 108] from hj)] at hq
        clear hj hs
        go_wp2
        go_returns
        exact ⟨by rw [HF.out]; rfl, rfl⟩
      rw [decide_eq_false (show ¬ p = [47, 106, 111, 117, 114, 110, 97, 108] from hj)] at hq
      have HOU : Hid (Disk.ours p = Go.Lib.hasPrefix p (Disk.jour ++ [47])) := Lib.hid (by unfold Disk.ours; rw [decide_eq_false hj]; rfl)
      clear hj
      by_cases h8 : 8 < p.length
      · have h8I : (8 : Int) < ((bs p).size : Int) := by rw [hs]; omega
        have hX : (bs p).extract 0 9 = bs (p.take 9) := by
          rw [← bs_of ((bs p).extract 0 9)]
          congr 1
          rw [extract_take, bs_list]
        have hq2 := str_lit9 p
        rw [← hX] at hq2
        have h9 : (9 : Int) ≤ ((bs p).size : Int) := by omega
        clear hX hs
        cases hh : Go.Lib.hasPrefix p (Disk.jour ++ [47])
        · rw [hh] at hq2
          have HF := Lib.hid (HNX.out (by rw [HOU.out, hh]))
          clear hh
          go_wp2
          go_roundw
          case rel => exact ⟨i + 1, by go_num, by omega, HF.out, trivial⟩
          case measure => simp [intOf]; omega
        · rw [hh] at hq2
          have HF := Lib.hid (HB.out (by rw [HOU.out, hh]))
          clear hh
          go_wp2
          go_returns
          exact ⟨by rw [HF.out]; rfl, rfl⟩
      · have h8I : ¬ (8 : Int) < ((bs p).size : Int) := by rw [hs]; omega
        have HF := Lib.hid (HNX.out (by
          rw [HOU.out, hasPrefix_take, decide_eq_false]
          intro e
          have := congrArg List.length e
          simp [Disk.jour] at this
          omega))
        clear hs
        go_wp2
        go_roundw
        case rel => exact ⟨i + 1, by go_num, by omega, HF.out, trivial⟩
        case measure => simp [intOf]; omega
    · have HF := Lib.hid (HOK.out (fun f hf => HALL.out f (by rw [List.take_of_length_le (by have := HN.out; omega)]; exact hf)))
      go_wp2
      go_returns
      exact ⟨by rw [HF.out]; rfl, rfl⟩
/-- What is at a path, as the document tells it. -/
def atRes (t : Option Disk.T) : Int × List UInt8 := match t with
  | none => (0, [])
  | some t => if t.dir then (2, []) else (1, t.data)
set_option maxHeartbeats 2000000 in
set_option maxRecDepth 100000 in
theorem at_any {w : World} {B : Nat} {lv : Value} {l : Disk.M} (hf : Files w B lv (fls l)) (hr : SM.Rises l) (hn : l.length ≤ 4398046511104) (p : ByteArray) :
    Calls Tryd.prog 35 #[lv, .string p] w fun e w' => e = .returned (.tuple #[.int .i64 (atRes (SM.look l p.data.toList)).1, .string (bs (atRes (SM.look l p.data.toList)).2)]) ∧ ∃ m, w' = w.drewN m := by
  obtain ⟨a1, c1, rfl⟩ := hf.form
  obtain ⟨N, hN⟩ : ∃ N, N = (fls l).length := ⟨_, rfl⟩
  have HF := Lib.hid hf
  have HR := Lib.hid hr
  have HNL : Hid (N = l.length) := Lib.hid (by rw [hN, fls_length])
  have hNn : N ≤ 4398046511104 := by rw [HNL.out]; exact hn
  rw [← hN]
  have HN := Lib.hid hN
  obtain ⟨t0, ht0⟩ : ∃ t, t = SM.look l p.data.toList := ⟨_, rfl⟩
  have HT := Lib.hid ht0
  rw [← ht0]
  clear hf hr hn hN ht0
  go_enter Tryd.func35, Tryd.ntmps35
  go_wp2
  go_loopw [6] (fun q wr => ∃ i : Nat, q = .int .i64 i ∧ i ≤ N ∧ (∀ x ∈ l.take i, x.1 ≠ p.data.toList) ∧ wr = w) (fun q _ => N - (intOf q).toNat)
  case atStart => exact ⟨0, rfl, by omega, fun x hx => by simp at hx, rfl⟩
  case round =>
    obtain ⟨i, rfl, hi, hall, rfl⟩ := hrel
    have HALL := Lib.hid hall
    clear hall
    by_cases hiN : i < N
    · obtain ⟨f, hf⟩ : ∃ f, (fls l)[i]? = some f := ⟨_, List.getElem?_eq_getElem (by have := HN.out; omega)⟩
      obtain ⟨bk, o, cap, hve, hbB, hbc⟩ := HF.out.at (by have := HN.out; omega)
      rw [← HN.out] at hve
      cases hve
      obtain ⟨e1, e2, e3⟩ := hbc i f hf
      have HL := Lib.hid (fls_at hf)
      obtain ⟨xp, xd, xt⟩ := f
      dsimp only at e1 e2 e3 HL
      have hiI : (i : Int) < (N : Int) := by omega
      have hq := sv_inj (a := xp) (b := p.data.toList)
      rw [bs_of] at hq
      clear hbc hf
      by_cases he : xp = p.data.toList
      · rw [decide_eq_true he] at hq
        have HT2 : Hid (t0 = some ⟨xd, xt⟩) := Lib.hid (by
          rw [HT.out, ← he]
          exact SM.look_mem HR.out (List.mem_of_getElem? HL.out))
        clear he
        cases xd
        · go_wp2
          go_big_quiet (fail)
          go_wp2
          go_returns
          exact ⟨by rw [HT2.out]; rfl, _, rfl⟩
        · go_wp2
          go_returns
          exact ⟨by rw [HT2.out]; rfl, 0, rfl⟩
      · rw [decide_eq_false he] at hq
        have HNX : Hid (∀ x ∈ l.take (i + 1), x.1 ≠ p.data.toList) := Lib.hid (fun x hx => by
          rw [List.take_add_one, HL.out] at hx
          rcases List.mem_append.1 hx with hx | hx
          · exact HALL.out x hx
          · simp at hx; subst hx; exact he)
        clear he
        go_wp2
        go_roundw
        case rel => exact ⟨i + 1, by go_num, by omega, HNX.out, trivial⟩
        case measure => simp [intOf]; omega
    · have HT2 : Hid (t0 = none) := Lib.hid (by
        rw [HT.out]
        cases hh : SM.look l p.data.toList with
        | none => rfl
        | some t =>
          have hm := SM.look_some hh
          have := HALL.out _ (by rw [List.take_of_length_le (by have := HNL.out; omega)]; exact hm)
          exact absurd rfl this)
      go_wp2
      go_returns
      exact ⟨by rw [HT2.out]; rfl, 0, rfl⟩
set_option maxHeartbeats 2000000 in
set_option maxRecDepth 100000 in
/-- The two lists of deeds are the same. -/
theorem deeds_any {w : World} {B : Nat} {v1 v2 : Value} {ds : List Disk.Dd} (h1 : Dds w B v1 ds) (h2 : Dds w B v2 ds) (hn : ds.length ≤ 4398046511104) :
    Calls Tryd.prog 10 #[v1, v2] w fun e w' => e = .returned (.bool true) ∧ ∃ m, w' = w.drewN m := by
  obtain ⟨a1, c1, rfl⟩ := h1.form
  obtain ⟨a2, c2, rfl⟩ := h2.form
  obtain ⟨N, hN⟩ : ∃ N, N = ds.length := ⟨_, rfl⟩
  have H1 := Lib.hid h1
  have H2 := Lib.hid h2
  rw [← hN] at hn ⊢
  have HN := Lib.hid hN
  clear h1 h2 hN
  go_enter Tryd.func10, Tryd.ntmps10
  go_wp2
  go_loopw [5] (fun q wr => ∃ i m : Nat, q = .int .i64 i ∧ i ≤ N ∧ wr = w.drewN m) (fun q _ => N - (intOf q).toNat)
  case atStart => exact ⟨0, 0, rfl, by omega, rfl⟩
  case round =>
    obtain ⟨i, m, rfl, hi, rfl⟩ := hrel
    by_cases hiN : i < N
    · obtain ⟨d, hd⟩ : ∃ d, ds[i]? = some d := ⟨_, List.getElem?_eq_getElem (by have := HN.out; omega)⟩
      obtain ⟨b1, o1, cap1, hv1, hb1, hc1⟩ := H1.out.at (by have := HN.out; omega)
      obtain ⟨b2, o2, cap2, hv2, hb2, hc2⟩ := H2.out.at (by have := HN.out; omega)
      rw [← HN.out] at hv1 hv2
      cases hv1
      cases hv2
      obtain ⟨x1, x2, x3⟩ := hc1 i d hd
      obtain ⟨y1, y2, y3⟩ := hc2 i d hd
      have hiI : (i : Int) < (N : Int) := by omega
      have hdn := fun w => deedNeq w d d
      have hsd : sameD d d = true := by unfold sameD; simp
      rw [hsd] at hdn
      clear hc1 hc2 hd hsd
      go_wp2
      go_big_quiet (fail)
      go_wp2
      go_roundw
      case rel => exact ⟨i + 1, _, by go_num, by omega, rfl⟩
      case measure => simp [intOf]; omega
    · go_wp2
      go_returns
      exact ⟨rfl, _, rfl⟩
end Go.Proofs.YtnfklomokjhojaaDoor
