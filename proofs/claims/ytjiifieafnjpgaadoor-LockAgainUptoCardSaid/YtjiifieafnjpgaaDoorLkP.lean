/- Graphs and their texts, in plain words. No program stands here. -/
import Derived.Test.YtjiifieafnjpgaaDoorScanPlain
import Derived.Test.YtjiifieafnjpgaaDoorScanN
import Derived.Test.YtjiifieafnjpgaaDoorScanQ
import Derived.Test.YtjiifieafnjpgaaDoorVL
namespace Go.Proofs.YtjiifieafnjpgaaDoor
set_option linter.unusedSimpArgs false
set_option linter.unusedVariables false
open VL
namespace Lock
/-- A version; a name with one; an edge; a node; a graph. -/
structure Ve where
  a : Int
  b : Int
  c : Int
  deriving DecidableEq
structure Pn where
  name : List UInt8
  v : Ve
  deriving DecidableEq
structure Eg where
  label : List UInt8
  dst : Int
  deriving DecidableEq
structure Nd where
  name : List UInt8
  v : Ve
  ctx : List Pn
  edges : List Eg
  deriving DecidableEq
abbrev G := List Nd
def Ve.may (v : Ve) : Bool := V.may v.a v.b v.c
def Ve.text (v : Ve) : List UInt8 := V.text v.a v.b v.c
def v0 : Ve := ⟨0, 0, 0⟩
def nd0 : Nd := ⟨[], v0, [], []⟩
/-- Do texts rise? -/
def rise : List (List UInt8) → Bool
  | a :: b :: r => bytesBefore a b && rise (b :: r)
  | _ => true
def namesOk (l : List (List UInt8)) : Bool := l.all Scan.nameOk && (rise l && decide (l.length ≤ 128))
def pins (l : List Pn) : Bool := namesOk (l.map (·.name)) && l.all (·.v.may)
def edges (many : Nat) (l : List Eg) : Bool := namesOk (l.map (·.label)) && l.all fun e => decide (1 ≤ e.dst) && decide (e.dst < many)
def named (i : Nat) (x : Nd) : Bool := if i = 0 then decide (x.name = []) && (decide (x.v = v0) && x.ctx.isEmpty) else Scan.nameOk x.name && x.v.may
def node (many i : Nat) (x : Nd) : Bool := named i x && (pins x.ctx && edges many x.edges)
def nodesFrom (many : Nat) : Nat → G → Bool
  | _, [] => true
  | i, x :: r => node many i x && nodesFrom many (i + 1) r
/-- Has a graph the form of one? -/
def may (g : G) : Bool := decide (1 ≤ g.length) && (decide (g.length ≤ 128) && nodesFrom g.length 0 g)
def wLock : List UInt8 := [108, 111, 99, 107]
def wRoot : List UInt8 := [114, 111, 111, 116]
def wNode : List UInt8 := [110, 111, 100, 101]
def wWith : List UInt8 := [119, 105, 116, 104]
def wTo : List UInt8 := [116, 111]
def pinWords (p : Pn) : List (List UInt8) := [wWith, p.name, p.v.text]
def edgeWords (e : Eg) : List (List UInt8) := [wTo, e.label, Go.Lib.decDigits e.dst.toNat]
def headWords (i : Nat) (x : Nd) : List (List UInt8) := if i = 0 then [wRoot] else [wNode, x.name, x.v.text]
def nodeLines (i : Nat) (x : Nd) : List (List (List UInt8)) := headWords i x :: (x.ctx.map pinWords ++ x.edges.map edgeWords)
def linesFrom : Nat → G → List (List (List UInt8))
  | _, [] => []
  | i, x :: r => nodeLines i x ++ linesFrom (i + 1) r
/-- A graph's lines; its text. -/
def lines (g : G) : List (List (List UInt8)) := [wLock] :: linesFrom 0 g
def text (g : G) : List UInt8 := Scan.unlines (lines g)
/-- What version a text is. -/
def verOf (l : List UInt8) : Ve × Bool := match V.run [0] l with
  | some [a, b, c] => if ((V.str a b c).toList == l) = true then (⟨a, b, c⟩, true) else (v0, false)
  | _ => (v0, false)
theorem rans_verOf (l : List UInt8) : V.rans l = .tuple #[.agg #[.int .i64 (verOf l).1.a, .int .i64 (verOf l).1.b, .int .i64 (verOf l).1.c], .bool (verOf l).2] := by
  unfold V.rans verOf
  split
  · rename_i a b c hr
    rw [hr]
    dsimp only
    by_cases e : ((V.str a b c).toList == l) = true
    · rw [if_pos e, if_pos e]
    · rw [if_neg e, if_neg e]; rfl
  · rename_i hr
    split
    · rename_i a b c hr2
      exact absurd hr2 (hr a b c)
    · rfl
theorem verOf_text {v : Ve} (h : v.may = true) : verOf v.text = (v, true) := by
  unfold verOf Ve.text
  rw [run_text h]
  simp only [V.str_list h, beq_self_eq_true, if_true]
theorem verOf_yes {l : List UInt8} (h : (verOf l).2 = true) : (verOf l).1.may = true ∧ (verOf l).1.text = l := by
  unfold verOf at h ⊢
  split
  · rename_i a b c hr
    rw [hr] at h
    dsimp only at h
    split at h
    · rename_i he
      rw [if_pos he]
      rw [beq_iff_eq] at he
      show V.may a b c = true ∧ V.text a b c = l
      cases hm : V.may a b c
      · rw [V.str_no hm] at he
        have : l = [] := by rw [← he, ByteArray.toList_eq]
        rw [this] at hr
        exact absurd hr (by simp [V.run])
      · exact ⟨rfl, by rw [← he, V.str_list hm]⟩
    · exact absurd h (by simp)
  · rename_i hr
    exfalso
    split at h
    · rename_i a b c hr2
      exact hr a b c hr2
    · exact absurd h (by simp)
/-- The last node, turned. -/
def upd (f : Nd → Nd) : G → G
  | [] => []
  | [x] => [f x]
  | x :: y :: r => x :: upd f (y :: r)
theorem upd_last (f : Nd → Nd) : ∀ (pre : G) (x : Nd), upd f (pre ++ [x]) = pre ++ [f x]
  | [], x => rfl
  | [y], x => rfl
  | y :: z :: r, x => by
    show y :: upd f (z :: r ++ [x]) = _
    rw [upd_last f (z :: r) x]
    rfl
def addPin (p : Pn) (x : Nd) : Nd := { x with ctx := x.ctx ++ [p] }
def addEdge (e : Eg) (x : Nd) : Nd := { x with edges := x.edges ++ [e] }
def lastEdges (g : G) : List Eg := match g.getLast? with
  | some x => x.edges
  | none => []
/-- A line more, as the program takes it. -/
def step3 (g : G) (k n t : List UInt8) : Option G :=
  if k = wNode ∧ (verOf t).2 = true then some (g ++ [⟨n, (verOf t).1, [], []⟩])
  else if k = wWith ∧ (verOf t).2 = true ∧ (lastEdges g).length = 0 then some (upd (addPin ⟨n, (verOf t).1⟩) g)
  else if k = wTo ∧ (Num.numAns t 128).2 = true then some (upd (addEdge ⟨n, (Num.numAns t 128).1⟩) g)
  else none
def step (g : G) (w : List (List UInt8)) : Option G := match w with
  | [k, n, t] => step3 g k n t
  | _ => none
theorem step_three (g : G) (k n t : List UInt8) : step g [k, n, t] = step3 g k n t := rfl
def steps : G → List (List (List UInt8)) → Option G
  | g, [] => some g
  | g, w :: r => (step g w).bind fun g' => steps g' r
theorem steps_append : ∀ (a b : List (List (List UInt8))) (g : G), steps g (a ++ b) = (steps g a).bind fun g' => steps g' b
  | [], b, g => rfl
  | w :: r, b, g => by
    show (step g w).bind (fun g' => steps g' (r ++ b)) = ((step g w).bind fun g' => steps g' r).bind fun g' => steps g' b
    cases step g w with
    | none => rfl
    | some g' => exact steps_append r b g'
/-- What the program reads: the error, and the graph. -/
def parse (T : List UInt8) : Int × G :=
  if 1048576 < T.length then (25, []) else match Scan.spec T with
  | .inl _ => (22, [])
  | .inr ls => match ls with
    | a :: b :: r => if a = [wLock] ∧ b = [wRoot] then (match steps [nd0] r with
      | some g => if may g then (0, g) else (22, [])
      | none => (22, [])) else (22, [])
    | _ => (22, [])
/-- A line more, as the document takes it. -/
def rstep (g : G) (w : List (List UInt8)) : Option G := match w with
  | [] => none
  | k :: r => if k = wRoot then some (g ++ [nd0]) else match r with
    | [n, t] => if k = wNode then some (g ++ [⟨n, (verOf t).1, [], []⟩]) else if g = [] then some g
      else if k = wWith then some (upd (addPin ⟨n, (verOf t).1⟩) g) else some (upd (addEdge ⟨n, (Num.numAns t 128).1⟩) g)
    | _ => none
def rsteps : G → List (List (List UInt8)) → Option G
  | g, [] => some g
  | g, w :: r => (rstep g w).bind fun g' => rsteps g' r
theorem rsteps_append : ∀ (a b : List (List (List UInt8))) (g : G), rsteps g (a ++ b) = (rsteps g a).bind fun g' => rsteps g' b
  | [], b, g => rfl
  | w :: r, b, g => by
    show (rstep g w).bind (fun g' => rsteps g' (r ++ b)) = ((rstep g w).bind fun g' => rsteps g' r).bind fun g' => rsteps g' b
    cases rstep g w with
    | none => rfl
    | some g' => exact rsteps_append r b g'
/-- What the document reads. -/
def rparse (T : List UInt8) : Int × G :=
  if 1048576 < T.length then (25, []) else match Scan.spec T with
  | .inl _ => (22, [])
  | .inr ls => match rsteps [] (ls.drop 1) with
    | some g => if may g = true ∧ text g = T then (0, g) else (22, [])
    | none => (22, [])
theorem lastEdges_snoc (pre : G) (x : Nd) : lastEdges (pre ++ [x]) = x.edges := by
  unfold lastEdges
  rw [List.getLast?_append]
  rfl
/-- The lines of a graph, but the first two, read again. -/
theorem steps_pins : ∀ (ps : List Pn) (pre : G) (x : Nd), x.edges = [] → ps.all (·.v.may) = true → steps (pre ++ [x]) (ps.map pinWords) = some (pre ++ [{ x with ctx := x.ctx ++ ps }])
  | [], pre, x, _, _ => by simp [steps]
  | p :: r, pre, x, he, h => by
    rw [List.all_cons, Bool.and_eq_true] at h
    have hv := verOf_text h.1
    have h1 : step (pre ++ [x]) (pinWords p) = some (pre ++ [addPin p x]) := by
      show step3 _ wWith p.name p.v.text = _
      unfold step3
      rw [hv]
      rw [if_neg (by rintro ⟨e, _⟩; exact absurd e (by decide)), if_pos ⟨rfl, rfl, by rw [lastEdges_snoc, he]; rfl⟩, upd_last]
    rw [List.map_cons, steps, h1]
    show steps (pre ++ [addPin p x]) (r.map pinWords) = _
    rw [steps_pins r pre (addPin p x) he h.2]
    simp [addPin]
theorem num_ok {n : Int} (h1 : 1 ≤ n) (h2 : n ≤ 128) : Num.numAns (Go.Lib.decDigits n.toNat) 128 = (n, true) := by
  unfold Num.numAns
  rw [Num.numOf_dec (by omega)]
  dsimp only
  rw [if_pos (by omega)]
  rw [show ((n.toNat : Nat) : Int) = n by omega]
theorem steps_edges : ∀ (es : List Eg) (pre : G) (x : Nd), (∀ e ∈ es, 1 ≤ e.dst ∧ e.dst ≤ 128) → steps (pre ++ [x]) (es.map edgeWords) = some (pre ++ [{ x with edges := x.edges ++ es }])
  | [], pre, x, _ => by simp [steps]
  | e :: r, pre, x, h => by
    have he := h e List.mem_cons_self
    have hv := num_ok he.1 he.2
    have h1 : step (pre ++ [x]) (edgeWords e) = some (pre ++ [addEdge e x]) := by
      show step3 _ wTo e.label (Go.Lib.decDigits e.dst.toNat) = _
      unfold step3
      rw [hv, if_neg (by rintro ⟨e, _⟩; exact absurd e (by decide)), if_neg (by rintro ⟨e, _⟩; exact absurd e (by decide)), if_pos ⟨rfl, rfl⟩, upd_last]
    rw [List.map_cons, steps, h1]
    show steps (pre ++ [addEdge e x]) (r.map edgeWords) = _
    rw [steps_edges r pre (addEdge e x) (fun y hy => h y (List.mem_cons_of_mem _ hy))]
    simp [addEdge]
theorem edges_in {many : Nat} {l : List Eg} (hm : many ≤ 128) (h : edges many l = true) : ∀ e ∈ l, 1 ≤ e.dst ∧ e.dst ≤ 128 := fun e he => by
  unfold edges at h
  rw [Bool.and_eq_true] at h
  have := List.all_eq_true.1 h.2 e he
  simp only [Bool.and_eq_true, decide_eq_true_eq] at this
  omega
theorem pins_in {l : List Pn} (h : pins l = true) : l.all (·.v.may) = true := by
  unfold pins at h
  rw [Bool.and_eq_true] at h
  exact h.2
/-- A node's own lines behind its head. -/
theorem steps_body {many : Nat} (hm : many ≤ 128) {x : Nd} (hp : pins x.ctx = true) (he : edges many x.edges = true) (pre : G) :
    steps (pre ++ [⟨x.name, x.v, [], []⟩]) (x.ctx.map pinWords ++ x.edges.map edgeWords) = some (pre ++ [x]) := by
  rw [steps_append, steps_pins x.ctx pre _ rfl (pins_in hp)]
  show steps (pre ++ [_]) (x.edges.map edgeWords) = _
  rw [steps_edges x.edges pre _ (edges_in hm he)]
  simp
theorem steps_lines {many : Nat} (hm : many ≤ 128) : ∀ (g : G) (i : Nat) (pre : G), 0 < i → nodesFrom many i g = true → steps pre (linesFrom i g) = some (pre ++ g)
  | [], i, pre, _, _ => by simp [steps, linesFrom]
  | x :: r, i, pre, hi, h => by
    unfold nodesFrom node at h
    simp only [Bool.and_eq_true] at h
    obtain ⟨⟨hn, hp, he⟩, hr⟩ := h
    unfold named at hn
    rw [if_neg (by omega), Bool.and_eq_true] at hn
    show steps pre (nodeLines i x ++ linesFrom (i + 1) r) = _
    unfold nodeLines headWords
    rw [if_neg (by omega)]
    have hv := verOf_text hn.2
    have h1 : step pre [wNode, x.name, x.v.text] = some (pre ++ [⟨x.name, x.v, [], []⟩]) := by
      show step3 _ wNode x.name x.v.text = _
      unfold step3
      rw [hv, if_pos ⟨rfl, rfl⟩]
    rw [List.cons_append, steps, h1]
    show steps (pre ++ [_]) ((x.ctx.map pinWords ++ x.edges.map edgeWords) ++ linesFrom (i + 1) r) = _
    rw [steps_append, steps_body hm hp he pre]
    show steps (pre ++ [x]) (linesFrom (i + 1) r) = _
    rw [steps_lines hm r (i + 1) (pre ++ [x]) (by omega) hr, List.append_assoc]
    rfl
theorem may_parts {g : G} (h : may g = true) : ∃ x r, g = x :: r ∧ g.length ≤ 128 ∧ x.name = [] ∧ x.v = v0 ∧ x.ctx = [] ∧ edges g.length x.edges = true ∧ nodesFrom g.length 1 r = true := by
  unfold may at h
  simp only [Bool.and_eq_true, decide_eq_true_eq] at h
  obtain ⟨h1, h2, h3⟩ := h
  cases g with
  | nil => simp at h1
  | cons x r =>
    unfold nodesFrom node named at h3
    rw [if_pos rfl] at h3
    simp only [Bool.and_eq_true, decide_eq_true_eq, List.isEmpty_iff] at h3
    obtain ⟨⟨⟨a1, a2, a3⟩, _, a5⟩, a6⟩ := h3
    exact ⟨x, r, rfl, h2, a1, a2, a3, a5, a6⟩
theorem lines_form {g : G} {x : Nd} {r : G} (hg : g = x :: r) (hc : x.ctx = []) : lines g = [wLock] :: [wRoot] :: (x.edges.map edgeWords ++ linesFrom 1 r) := by
  subst hg
  show [wLock] :: (nodeLines 0 x ++ linesFrom 1 r) = _
  unfold nodeLines headWords
  rw [if_pos rfl, hc]
  rfl
theorem steps_text {g : G} (h : may g = true) : steps [nd0] ((lines g).drop 2) = some g := by
  obtain ⟨x, r, hg, hl, h1, h2, h3, h4, h5⟩ := may_parts h
  rw [lines_form hg h3]
  show steps [nd0] (x.edges.map edgeWords ++ linesFrom 1 r) = _
  have e := steps_edges x.edges [] nd0 (edges_in hl h4)
  rw [List.nil_append] at e
  rw [steps_append, e]
  show steps _ (linesFrom 1 r) = _
  rw [steps_lines hl r 1 _ (by omega) h5, hg]
  have hx : ({ nd0 with edges := nd0.edges ++ x.edges } : Nd) = x := by
    obtain ⟨n, v, c, es⟩ := x
    dsimp only at h1 h2 h3
    subst h1 h2 h3
    rfl
  rw [List.nil_append, hx]
  rfl
end Lock
end Go.Proofs.YtjiifieafnjpgaaDoor

namespace Go.Proofs.YtjiifieafnjpgaaDoor
set_option linter.unusedSimpArgs false
set_option linter.unusedVariables false
open VL
namespace Lock
theorem linesFrom_snoc : ∀ (pre : G) (i : Nat) (x : Nd), linesFrom i (pre ++ [x]) = linesFrom i pre ++ nodeLines (i + pre.length) x
  | [], i, x => by
    show nodeLines i x ++ [] = [] ++ nodeLines (i + 0) x
    rw [List.append_nil]; rfl
  | y :: r, i, x => by
    show nodeLines i y ++ linesFrom (i + 1) (r ++ [x]) = (nodeLines i y ++ linesFrom (i + 1) r) ++ _
    rw [linesFrom_snoc r (i + 1) x, List.append_assoc, List.length_cons, show i + 1 + r.length = i + (r.length + 1) by omega]
theorem num_yes {t : List UInt8} {m : Int} (h : (Num.numAns t m).2 = true) : Go.Lib.decDigits (Num.numAns t m).1.toNat = t := by
  unfold Num.numAns at h ⊢
  split
  · rename_i n hn
    rw [hn] at h
    dsimp only at h
    split at h
    · rename_i hb
      rw [if_pos hb]
      show Go.Lib.decDigits ((n : Nat) : Int).toNat = t
      rw [Int.toNat_natCast]
      exact (Num.numOf_some hn).1.symm
    · exact absurd h (by simp)
  · rename_i hn
    rw [hn] at h
    exact absurd h (by simp)
theorem split_last {g : G} (h : g ≠ []) : ∃ pre x, g = pre ++ [x] := ⟨g.dropLast, g.getLast h, (List.dropLast_concat_getLast h).symm⟩
theorem step_lines {g g' : G} {w : List (List UInt8)} (hg : g ≠ []) (h : step g w = some g') : g' ≠ [] ∧ linesFrom 0 g' = linesFrom 0 g ++ [w] := by
  obtain ⟨pre, x, rfl⟩ := split_last hg
  unfold step at h
  split at h
  · rename_i k n t
    unfold step3 at h
    split at h
    · rename_i hc
      obtain ⟨rfl, hv⟩ := hc
      simp only [Option.some.injEq] at h
      subst h
      refine ⟨by simp, ?_⟩
      rw [linesFrom_snoc (pre ++ [x])]
      unfold nodeLines headWords
      rw [if_neg (by simp), (verOf_yes hv).2]
      rfl
    · split at h
      · rename_i hc
        obtain ⟨rfl, hv, he⟩ := hc
        simp only [Option.some.injEq] at h
        rw [lastEdges_snoc] at he
        have he' := List.eq_nil_of_length_eq_zero he
        rw [upd_last] at h
        subst h
        refine ⟨by simp, ?_⟩
        rw [linesFrom_snoc, linesFrom_snoc, List.append_assoc]
        congr 1
        unfold nodeLines addPin headWords
        dsimp only
        rw [he', List.map_append, List.map_cons, List.map_nil, List.map_nil]
        unfold pinWords
        dsimp only
        rw [(verOf_yes hv).2]
        simp
      · split at h
        · rename_i hc
          obtain ⟨rfl, hv⟩ := hc
          simp only [Option.some.injEq] at h
          rw [upd_last] at h
          subst h
          refine ⟨by simp, ?_⟩
          rw [linesFrom_snoc, linesFrom_snoc, List.append_assoc]
          congr 1
          unfold nodeLines addEdge headWords
          dsimp only
          rw [List.map_append, List.map_cons, List.map_nil]
          unfold edgeWords
          dsimp only
          rw [num_yes hv]
          simp
        · exact absurd h (by simp)
  · exact absurd h (by simp)
theorem steps_keep : ∀ (r : List (List (List UInt8))) (g g' : G), g ≠ [] → steps g r = some g' → linesFrom 0 g' = linesFrom 0 g ++ r
  | [], g, g', _, h => by
    simp only [steps, Option.some.injEq] at h
    rw [h, List.append_nil]
  | w :: r, g, g', hg, h => by
    unfold steps at h
    cases hs : step g w with
    | none => rw [hs] at h; exact absurd h (by simp)
    | some g1 =>
      rw [hs] at h
      obtain ⟨h1, h2⟩ := step_lines hg hs
      rw [steps_keep r g1 g' h1 h, h2, List.append_assoc]
      rfl
theorem steps_from {r : List (List (List UInt8))} {g : G} (h : steps [nd0] r = some g) : lines g = [wLock] :: [wRoot] :: r := by
  unfold lines
  rw [steps_keep r [nd0] g (by simp) h]
  rfl
/-- What the program reads is that graph's text. -/
theorem parse_ok {T : List UInt8} {g : G} (h : parse T = (0, g)) : may g = true ∧ text g = T ∧ T.length ≤ 1048576 ∧ Scan.spec T = .inr (lines g) := by
  unfold parse at h
  split at h
  · exact absurd (congrArg Prod.fst h) (by simp)
  · rename_i hl
    split at h
    · exact absurd (congrArg Prod.fst h) (by simp)
    · rename_i ls hls
      split at h
      · rename_i a b r
        split at h
        · rename_i hab
          obtain ⟨rfl, rfl⟩ := hab
          split at h
          · rename_i g1 hg
            split at h
            · rename_i hm
              have : g1 = g := congrArg Prod.snd h
              subst this
              have e := steps_from hg
              refine ⟨hm, ?_, by omega, by rw [e]; exact hls⟩
              unfold text
              rw [e]
              exact (Scan.spec_form hls).1.symm
            · exact absurd (congrArg Prod.fst h) (by simp)
          · exact absurd (congrArg Prod.fst h) (by simp)
        · exact absurd (congrArg Prod.fst h) (by simp)
      · exact absurd (congrArg Prod.fst h) (by simp)
theorem isW_name {l : List UInt8} (h : Scan.nameOk l = true) : Scan.isW l = true := by
  cases l with
  | nil => exact absurd h (by simp [Scan.nameOk])
  | cons c r =>
    unfold Scan.nameOk at h
    simp only [Bool.and_eq_true, List.all_eq_true] at h
    refine Scan.isW_of (by simp) fun x hx => ?_
    rw [Scan.letter_iff]
    rcases List.mem_cons.1 hx with rfl | hx
    · have := h.1.1
      simp only [Scan.small, Bool.and_eq_true, decide_eq_true_eq] at this
      omega
    · have := h.1.2 x hx
      simp only [Scan.small, Scan.other, Bool.or_eq_true, Bool.and_eq_true, decide_eq_true_eq] at this
      omega
theorem name_short {l : List UInt8} (h : Scan.nameOk l = true) : l.length ≤ 16 := by
  cases l with
  | nil => simp
  | cons c r =>
    unfold Scan.nameOk at h
    simp only [Bool.and_eq_true, decide_eq_true_eq] at h
    exact h.2
theorem dec_ne (u : Nat) : Go.Lib.decDigits u ≠ [] := by
  have := Go.Lib.decDigits_length u
  intro e
  rw [Go.Lib.decDigits] at e
  split at e <;> simp at e
theorem dec_letter (u : Nat) : ∀ c ∈ Go.Lib.decDigits u, Scan.letter c = true := fun c hc => by
  have := V.dec_digit u c hc
  rw [Scan.letter_iff]
  omega
theorem isW_dec (u : Nat) : Scan.isW (Go.Lib.decDigits u) = true := Scan.isW_of (dec_ne u) (dec_letter u)
theorem isW_ver (v : Ve) : Scan.isW v.text = true := by
  unfold Ve.text V.text
  refine Scan.isW_of (by simp) fun c hc => ?_
  simp only [List.mem_append, List.mem_cons] at hc
  rcases hc with hc | rfl | hc | rfl | hc
  · exact dec_letter _ c hc
  · decide
  · exact dec_letter _ c hc
  · decide
  · exact dec_letter _ c hc
theorem ver_short {v : Ve} (h : v.may = true) : v.text.length ≤ 11 := by
  have hm := V.may_iff.1 h
  unfold Ve.text V.text
  have h1 := (V.dec_short (u := v.a.toNat) (by omega)).1
  have h2 := (V.dec_short (u := v.b.toNat) (by omega)).1
  have h3 := (V.dec_short (u := v.c.toNat) (by omega)).1
  simp only [List.length_append, List.length_cons]
  omega
theorem mem_lines_from : ∀ (g : G) (i : Nat) (w : List (List UInt8)), w ∈ linesFrom i g → ∃ (k : Nat) (x : Nd), g[k]? = some x ∧ w ∈ nodeLines (i + k) x
  | [], i, w, h => absurd h (by simp [linesFrom])
  | x :: r, i, w, h => by
    have h' : w ∈ nodeLines i x ++ linesFrom (i + 1) r := h
    rcases List.mem_append.1 h' with h | h
    · exact ⟨0, x, rfl, h⟩
    · obtain ⟨k, y, h1, h2⟩ := mem_lines_from r (i + 1) w h
      exact ⟨k + 1, y, by simpa using h1, by rw [show i + (k + 1) = i + 1 + k by omega]; exact h2⟩
theorem nodes_at {many : Nat} : ∀ (g : G) (i : Nat), nodesFrom many i g = true → ∀ (k : Nat) (x : Nd), g[k]? = some x → node many (i + k) x = true
  | [], i, _, k, x, h => absurd h (by simp)
  | y :: r, i, hn, 0, x, h => by
    unfold nodesFrom at hn
    rw [Bool.and_eq_true] at hn
    simp only [List.getElem?_cons_zero, Option.some.injEq] at h
    subst h
    exact hn.1
  | y :: r, i, hn, k + 1, x, h => by
    unfold nodesFrom at hn
    rw [Bool.and_eq_true] at hn
    have := nodes_at r (i + 1) hn.2 k x (by simpa using h)
    rw [show i + (k + 1) = i + 1 + k by omega]
    exact this
theorem pin_in {l : List Pn} (h : pins l = true) : ∀ p ∈ l, Scan.nameOk p.name = true ∧ p.v.may = true := fun p hp => by
  unfold pins namesOk at h
  simp only [Bool.and_eq_true, List.all_eq_true] at h
  exact ⟨h.1.1 _ (List.mem_map_of_mem hp), h.2 p hp⟩
theorem edge_in {many : Nat} {l : List Eg} (h : edges many l = true) : ∀ e ∈ l, Scan.nameOk e.label = true ∧ 1 ≤ e.dst ∧ e.dst < many := fun e he => by
  unfold edges namesOk at h
  simp only [Bool.and_eq_true, List.all_eq_true, decide_eq_true_eq] at h
  exact ⟨h.1.1 _ (List.mem_map_of_mem he), (h.2 e he).1, (h.2 e he).2⟩
/-- A line of a graph: of words, and how long. -/
def LineFits (n : Nat) (w : List (List UInt8)) : Prop := w ≠ [] ∧ (∀ p ∈ w, Scan.isW p = true) ∧ (Scan.unline w).length ≤ n
theorem three_len (a b c : List UInt8) : (Scan.unline [a, b, c]).length = a.length + b.length + c.length + 3 := by
  unfold Scan.unline
  simp only [Cut.glue, List.length_append, List.length_cons, List.length_nil]
  omega
theorem dec_four {u : Nat} (h : u < 1000) : (Go.Lib.decDigits u).length ≤ 3 := (V.dec_short h).1
theorem pin_fits {p : Pn} (h : Scan.nameOk p.name = true ∧ p.v.may = true) : LineFits 34 (pinWords p) := by
  refine ⟨by simp [pinWords], fun x hx => ?_, ?_⟩
  · simp only [pinWords, List.mem_cons, List.not_mem_nil, or_false] at hx
    rcases hx with rfl | rfl | rfl
    · decide
    · exact isW_name h.1
    · exact isW_ver _
  · have h1 := name_short h.1
    have h2 := ver_short h.2
    unfold pinWords
    rw [three_len]
    simp only [wWith, List.length_cons, List.length_nil]
    omega
theorem edge_fits {e : Eg} (h : Scan.nameOk e.label = true ∧ 1 ≤ e.dst ∧ e.dst < 1000) : LineFits 24 (edgeWords e) := by
  refine ⟨by simp [edgeWords], fun x hx => ?_, ?_⟩
  · simp only [edgeWords, List.mem_cons, List.not_mem_nil, or_false] at hx
    rcases hx with rfl | rfl | rfl
    · decide
    · exact isW_name h.1
    · exact isW_dec _
  · have h1 := name_short h.1
    have h2 := dec_four (u := e.dst.toNat) (by omega)
    unfold edgeWords
    rw [three_len]
    simp only [wTo, List.length_cons, List.length_nil]
    omega
theorem head_fits {many i : Nat} {x : Nd} (h : named i x = true) : LineFits 34 (headWords i x) := by
  unfold named at h
  unfold headWords
  split
  · refine ⟨by simp, fun y hy => ?_, by decide⟩
    simp only [List.mem_cons, List.not_mem_nil, or_false] at hy
    rw [hy]; decide
  · rename_i hi
    rw [if_neg hi, Bool.and_eq_true] at h
    refine ⟨by simp, fun y hy => ?_, ?_⟩
    · simp only [List.mem_cons, List.not_mem_nil, or_false] at hy
      rcases hy with rfl | rfl | rfl
      · decide
      · exact isW_name h.1
      · exact isW_ver _
    · have h1 := name_short h.1
      have h2 := ver_short h.2
      rw [three_len]
      simp only [wNode, List.length_cons, List.length_nil]
      omega
theorem many_len : ∀ (n : Nat) (l : List (List (List UInt8))), (∀ w ∈ l, LineFits n w) → (Scan.unlines l).length ≤ n * l.length
  | n, [], _ => by simp [Scan.unlines]
  | n, w :: r, h => by
    have h1 := (h w List.mem_cons_self).2.2
    have h2 := many_len n r fun x hx => h x (List.mem_cons_of_mem _ hx)
    have e : Scan.unlines (w :: r) = Scan.unline w ++ Scan.unlines r := by simp [Scan.unlines]
    rw [e, List.length_append, List.length_cons, Nat.mul_add, Nat.mul_one]
    omega
theorem unlines_two (a b : List (List (List UInt8))) : Scan.unlines (a ++ b) = Scan.unlines a ++ Scan.unlines b := by simp [Scan.unlines]
theorem names_few {l : List (List UInt8)} (h : namesOk l = true) : l.length ≤ 128 := by
  unfold namesOk at h
  simp only [Bool.and_eq_true, decide_eq_true_eq] at h
  exact h.2.2
theorem node_parts {many i : Nat} {x : Nd} (h : node many i x = true) : named i x = true ∧ pins x.ctx = true ∧ edges many x.edges = true := by
  unfold node at h
  simp only [Bool.and_eq_true] at h
  exact h
theorem node_len {many i : Nat} (hm : many ≤ 128) {x : Nd} (h : node many i x = true) : (Scan.unlines (nodeLines i x)).length ≤ 7458 ∧ (∀ w ∈ nodeLines i x, w ≠ [] ∧ ∀ p ∈ w, Scan.isW p = true) := by
  obtain ⟨h1, h2, h3⟩ := node_parts h
  have f1 := head_fits (many := many) h1
  have f2 : ∀ w ∈ x.ctx.map pinWords, LineFits 34 w := fun w hw => by
    obtain ⟨p, hp, rfl⟩ := List.mem_map.1 hw
    exact pin_fits (pin_in h2 p hp)
  have f3 : ∀ w ∈ x.edges.map edgeWords, LineFits 24 w := fun w hw => by
    obtain ⟨p, hp, rfl⟩ := List.mem_map.1 hw
    have := edge_in h3 p hp
    exact edge_fits ⟨this.1, this.2.1, by omega⟩
  have c2 : x.ctx.length ≤ 128 := by
    unfold pins at h2
    rw [Bool.and_eq_true] at h2
    have := names_few h2.1
    rwa [List.length_map] at this
  have c3 : x.edges.length ≤ 128 := by
    unfold edges at h3
    rw [Bool.and_eq_true] at h3
    have := names_few h3.1
    rwa [List.length_map] at this
  refine ⟨?_, fun w hw => ?_⟩
  · have g2 := many_len _ _ f2
    have g3 := many_len _ _ f3
    rw [List.length_map] at g2 g3
    unfold nodeLines
    have e : Scan.unlines (headWords i x :: (x.ctx.map pinWords ++ x.edges.map edgeWords)) = Scan.unline (headWords i x) ++ (Scan.unlines (x.ctx.map pinWords) ++ Scan.unlines (x.edges.map edgeWords)) := by
      rw [← unlines_two]
      simp [Scan.unlines]
    rw [e, List.length_append, List.length_append]
    have g1 := f1.2.2
    omega
  · unfold nodeLines at hw
    rcases List.mem_cons.1 hw with rfl | hw
    · exact ⟨f1.1, f1.2.1⟩
    · rcases List.mem_append.1 hw with hw | hw
      · exact ⟨(f2 w hw).1, (f2 w hw).2.1⟩
      · exact ⟨(f3 w hw).1, (f3 w hw).2.1⟩
theorem from_len {many : Nat} (hm : many ≤ 128) : ∀ (g : G) (i : Nat), nodesFrom many i g = true → (Scan.unlines (linesFrom i g)).length ≤ 7458 * g.length
  | [], i, _ => by simp [Scan.unlines, linesFrom]
  | x :: r, i, h => by
    have h1 := (node_len hm (nodes_at (x :: r) i h 0 x rfl)).1
    unfold nodesFrom at h
    rw [Bool.and_eq_true] at h
    have h2 := from_len hm r (i + 1) h.2
    have e : Scan.unlines (linesFrom i (x :: r)) = Scan.unlines (nodeLines i x) ++ Scan.unlines (linesFrom (i + 1) r) := by rw [← unlines_two]; rfl
    rw [e, List.length_append, List.length_cons]
    rw [Nat.add_zero] at h1
    omega
theorem may_form {g : G} (h : may g = true) : 1 ≤ g.length ∧ g.length ≤ 128 ∧ nodesFrom g.length 0 g = true := by
  unfold may at h
  simpa using h
theorem text_short {g : G} (h : may g = true) : (text g).length ≤ 1048576 := by
  obtain ⟨h1, h2, h3⟩ := may_form h
  have := from_len h2 g 0 h3
  have e : text g = Scan.unline [wLock] ++ Scan.unlines (linesFrom 0 g) := by
    unfold text lines
    simp [Scan.unlines]
  have e1 : (Scan.unline [wLock]).length = 5 := by decide
  rw [e, List.length_append, e1]
  omega
theorem good_lines {g : G} (h : may g = true) : Scan.GoodL (lines g) := by
  obtain ⟨h1, h2, h3⟩ := may_form h
  intro w hw
  unfold lines at hw
  rcases List.mem_cons.1 hw with rfl | hw
  · refine ⟨by simp, fun y hy => ?_⟩
    simp only [List.mem_cons, List.not_mem_nil, or_false] at hy
    rw [hy]; decide
  · obtain ⟨k, x, hx, hl⟩ := mem_lines_from g 0 w hw
    exact (node_len h2 (nodes_at g 0 h3 k x hx)).2 w hl
theorem spec_text {g : G} (h : may g = true) : Scan.spec (text g) = .inr (lines g) := Scan.spec_done (good_lines h)
theorem lines_two {g : G} (h : may g = true) : lines g = [wLock] :: [wRoot] :: (lines g).drop 2 := by
  obtain ⟨x, r, hg, hl, h1, h2, h3, h4, h5⟩ := may_parts h
  rw [lines_form hg h3]
  rfl
/-- A graph's text is read as that graph. -/
theorem parse_text {g : G} (h : may g = true) : parse (text g) = (0, g) := by
  unfold parse
  rw [if_neg (by have := text_short h; omega), spec_text h]
  dsimp only
  rw [lines_two h]
  dsimp only
  rw [if_pos ⟨rfl, rfl⟩, steps_text h]
  dsimp only
  rw [if_pos h]
theorem text_inj {g h : G} (hg : may g = true) (hh : may h = true) (e : text g = text h) : g = h := by
  have h1 := parse_text hg
  rw [e, parse_text hh] at h1
  exact (congrArg Prod.snd h1).symm
end Lock
end Go.Proofs.YtjiifieafnjpgaaDoor

namespace Go.Proofs.YtjiifieafnjpgaaDoor
set_option linter.unusedSimpArgs false
set_option linter.unusedVariables false
open VL
namespace Lock
theorem rstep_three (g : G) (k n t : List UInt8) : rstep g [k, n, t] = if k = wRoot then some (g ++ [nd0]) else if k = wNode then some (g ++ [⟨n, (verOf t).1, [], []⟩]) else if g = [] then some g
      else if k = wWith then some (upd (addPin ⟨n, (verOf t).1⟩) g) else some (upd (addEdge ⟨n, (Num.numAns t 128).1⟩) g) := rfl
theorem rsteps_pins : ∀ (ps : List Pn) (pre : G) (x : Nd), ps.all (·.v.may) = true → rsteps (pre ++ [x]) (ps.map pinWords) = some (pre ++ [{ x with ctx := x.ctx ++ ps }])
  | [], pre, x, _ => by simp [rsteps]
  | p :: r, pre, x, h => by
    rw [List.all_cons, Bool.and_eq_true] at h
    have hv := verOf_text h.1
    have h1 : rstep (pre ++ [x]) (pinWords p) = some (pre ++ [addPin p x]) := by
      unfold pinWords
      rw [rstep_three, hv, if_neg (by decide), if_neg (by decide), if_neg (by simp), if_pos rfl, upd_last]
    rw [List.map_cons, rsteps, h1]
    show rsteps (pre ++ [addPin p x]) (r.map pinWords) = _
    rw [rsteps_pins r pre (addPin p x) h.2]
    simp [addPin]
theorem rsteps_edges : ∀ (es : List Eg) (pre : G) (x : Nd), (∀ e ∈ es, 1 ≤ e.dst ∧ e.dst ≤ 128) → rsteps (pre ++ [x]) (es.map edgeWords) = some (pre ++ [{ x with edges := x.edges ++ es }])
  | [], pre, x, _ => by simp [rsteps]
  | e :: r, pre, x, h => by
    have he := h e List.mem_cons_self
    have hv := num_ok he.1 he.2
    have h1 : rstep (pre ++ [x]) (edgeWords e) = some (pre ++ [addEdge e x]) := by
      unfold edgeWords
      rw [rstep_three, hv, if_neg (by decide), if_neg (by decide), if_neg (by simp), if_neg (by decide), upd_last]
    rw [List.map_cons, rsteps, h1]
    show rsteps (pre ++ [addEdge e x]) (r.map edgeWords) = _
    rw [rsteps_edges r pre (addEdge e x) (fun y hy => h y (List.mem_cons_of_mem _ hy))]
    simp [addEdge]
theorem rsteps_body {many : Nat} (hm : many ≤ 128) {x : Nd} (hp : pins x.ctx = true) (he : edges many x.edges = true) (pre : G) :
    rsteps (pre ++ [⟨x.name, x.v, [], []⟩]) (x.ctx.map pinWords ++ x.edges.map edgeWords) = some (pre ++ [x]) := by
  rw [rsteps_append, rsteps_pins x.ctx pre _ (pins_in hp)]
  show rsteps (pre ++ [_]) (x.edges.map edgeWords) = _
  rw [rsteps_edges x.edges pre _ (edges_in hm he)]
  simp
theorem rsteps_lines {many : Nat} (hm : many ≤ 128) : ∀ (g : G) (i : Nat) (pre : G), 0 < i → nodesFrom many i g = true → rsteps pre (linesFrom i g) = some (pre ++ g)
  | [], i, pre, _, _ => by simp [rsteps, linesFrom]
  | x :: r, i, pre, hi, h => by
    unfold nodesFrom node at h
    simp only [Bool.and_eq_true] at h
    obtain ⟨⟨hn, hp, he⟩, hr⟩ := h
    unfold named at hn
    rw [if_neg (by omega), Bool.and_eq_true] at hn
    show rsteps pre (nodeLines i x ++ linesFrom (i + 1) r) = _
    unfold nodeLines headWords
    rw [if_neg (by omega)]
    have hv := verOf_text hn.2
    have h1 : rstep pre [wNode, x.name, x.v.text] = some (pre ++ [⟨x.name, x.v, [], []⟩]) := by
      rw [rstep_three, hv, if_neg (by decide), if_pos rfl]
    rw [List.cons_append, rsteps, h1]
    show rsteps (pre ++ [_]) ((x.ctx.map pinWords ++ x.edges.map edgeWords) ++ linesFrom (i + 1) r) = _
    rw [rsteps_append, rsteps_body hm hp he pre]
    show rsteps (pre ++ [x]) (linesFrom (i + 1) r) = _
    rw [rsteps_lines hm r (i + 1) (pre ++ [x]) (by omega) hr, List.append_assoc]
    rfl
theorem rsteps_text {g : G} (h : may g = true) : rsteps [] ((lines g).drop 1) = some g := by
  obtain ⟨x, r, hg, hl, h1, h2, h3, h4, h5⟩ := may_parts h
  rw [lines_form hg h3]
  show (rstep [] [wRoot]).bind (fun g' => rsteps g' (x.edges.map edgeWords ++ linesFrom 1 r)) = _
  have e0 : rstep [] [wRoot] = some [nd0] := by
    unfold rstep
    dsimp only
    rw [if_pos rfl]; rfl
  rw [e0]
  show rsteps [nd0] (x.edges.map edgeWords ++ linesFrom 1 r) = _
  have e := rsteps_edges x.edges [] nd0 (edges_in hl h4)
  rw [List.nil_append] at e
  rw [rsteps_append, e]
  show rsteps _ (linesFrom 1 r) = _
  rw [rsteps_lines hl r 1 _ (by omega) h5, hg]
  have hx : ({ nd0 with edges := nd0.edges ++ x.edges } : Nd) = x := by
    obtain ⟨n, v, c, es⟩ := x
    dsimp only at h1 h2 h3
    subst h1 h2 h3
    rfl
  rw [List.nil_append, hx]
  rfl
theorem rparse_text {g : G} (h : may g = true) : rparse (text g) = (0, g) := by
  unfold rparse
  rw [if_neg (by have := text_short h; omega), spec_text h]
  dsimp only
  rw [rsteps_text h]
  dsimp only
  rw [if_pos ⟨h, rfl⟩]
/-- What a reading answers that is none. -/
theorem parse_or (T : List UInt8) : (∃ g, may g = true ∧ text g = T ∧ parse T = (0, g)) ∨ parse T = (if 1048576 < T.length then 25 else 22, []) := by
  by_cases h : (parse T).1 = 0
  · left
    have e : parse T = (0, (parse T).2) := by rw [← h]
    obtain ⟨h1, h2, _⟩ := parse_ok e
    exact ⟨_, h1, h2, e⟩
  · right
    unfold parse at h ⊢
    split
    · rfl
    · rename_i hl
      rw [if_neg hl] at h
      split
      · rfl
      · rename_i ls hls
        rw [hls] at h
        dsimp only at h
        split
        · rename_i a b r
          dsimp only at h
          split
          · rename_i hab
            rw [if_pos hab] at h
            split
            · rename_i g1 hg
              rw [hg] at h
              dsimp only at h
              split
              · rename_i hm
                rw [if_pos hm] at h
                exact absurd rfl h
              · rfl
            · rfl
          · rfl
        · rfl
theorem rparse_or (T : List UInt8) : (∃ g, may g = true ∧ text g = T ∧ rparse T = (0, g)) ∨ rparse T = (if 1048576 < T.length then 25 else 22, []) := by
  unfold rparse
  split
  · exact .inr rfl
  · split
    · exact .inr rfl
    · rename_i ls hls
      split
      · rename_i g hg
        split
        · rename_i h
          exact .inl ⟨g, h.1, h.2, rfl⟩
        · exact .inr rfl
      · exact .inr rfl
/-- The document reads the same. -/
theorem parse_law (T : List UInt8) : rparse T = parse T := by
  rcases parse_or T with ⟨g, h1, rfl, h3⟩ | h
  · rw [h3, rparse_text h1]
  · rcases rparse_or T with ⟨g, h1, rfl, h3⟩ | h'
    · rw [h3, parse_text h1]
    · rw [h, h']
end Lock
end Go.Proofs.YtjiifieafnjpgaaDoor
