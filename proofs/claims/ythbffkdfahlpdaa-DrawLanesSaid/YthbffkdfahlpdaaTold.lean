/- A map of rows: told by keys; tapes as things owned apart. -/
import Derived.Test.YthbffkdfahlpdaaDrawC
import Derived.Test.YthbffkdfahlpdaaIterC
import Derived.Test.YthbffkdfahlpdaaRefS
import Derived.Test.YthbffkdfahlpdaaSepW
set_option linter.unusedVariables false
namespace Go.Proofs.Ythbffkdfahlpdaa
open Go.RowKit Go.MapKept

/-! ### two things as one -/
def two (a b : Res) : Res := compR fun _ : Unit => [a, b]
theorem two_iff {a b : Res} {w : World} {S : Nat → Prop} : (two a b).p w S ↔ ∃ own : Nat → Nat, (∀ k, k < w.heap.size → own k ≠ 0 → S k) ∧ a.p w (fun k => own k = 1) ∧ b.p w (fun k => own k = 2) := by
  constructor
  · rintro ⟨_, own, h1, h2⟩
    exact ⟨own, h1, h2 0 a rfl, h2 1 b rfl⟩
  · rintro ⟨own, h1, h2, h3⟩
    refine ⟨(), own, h1, fun i R hi => ?_⟩
    match i, hi with
    | 0, hi => cases hi; exact h2
    | 1, hi => cases hi; exact h3
theorem two_mono {a b b' : Res} (h : ∀ w S, b.p w S → b'.p w S) (w : World) (S : Nat → Prop) (q : (two a b).p w S) : (two a b').p w S := by
  obtain ⟨own, h1, h2, h3⟩ := two_iff.1 q
  exact two_iff.2 ⟨own, h1, h2, h _ _ h3⟩
theorem res_sub {a : Res} {w : World} {S S' : Nat → Prop} (h : a.p w S) (hs : ∀ k, k < w.heap.size → S k → S' k) : a.p w S' := Res.mov a h (Nat.le_refl _) fun k hk q => ⟨hs k hk q, rfl⟩
theorem two_swap {a b c : Res} (w : World) (S : Nat → Prop) (q : (two a (two b c)).p w S) : (two b (two a c)).p w S := by
  obtain ⟨own, h1, h2, h3⟩ := two_iff.1 q
  obtain ⟨own', h4, h5, h6⟩ := two_iff.1 h3
  refine two_iff.2 ⟨fun k => if k < w.heap.size then (if own' k = 1 then 1 else if own' k = 2 then 2 else if own k = 1 then 2 else 0) else 0, fun k hk e => ?_, ?_, two_iff.2 ⟨fun k => if k < w.heap.size then (if own' k = 2 then 2 else if own' k = 1 then 0 else if own k = 1 then 1 else 0) else 0, fun k hk e => ?_, ?_, ?_⟩⟩
  · simp only [if_pos hk] at e
    by_cases e1 : own' k = 0
    · simp only [e1] at e
      exact h1 k hk (by intro z; simp [z] at e)
    · have := h4 k hk e1; exact h1 k hk (by omega)
  · exact res_sub h5 fun k hk e => by simp [hk, e]
  · simp only [if_pos hk] at e ⊢
    split at e
    · rename_i e1; simp [e1]
    · split at e
      · exact absurd rfl e
      · rename_i e1 e2
        split at e
        · rename_i e3; simp [e1, e2, e3]
        · exact absurd rfl e
  · refine res_sub h2 fun k hk e => ?_
    have e1 : own' k = 0 := Classical.byContradiction fun z => by have := h4 k hk z; omega
    simp [hk, e1, e]
  · exact res_sub h6 fun k hk e => by simp [hk, e]
def allR : List Res → Res
  | [] => emp
  | R :: l => two R (allR l)
theorem allR_perm {A B : List Res} (h : A.Perm B) : ∀ (w : World) (S : Nat → Prop), (allR A).p w S → (allR B).p w S := by
  induction h with
  | nil => exact fun _ _ q => q
  | cons x _ ih => exact fun w S q => two_mono ih w S q
  | swap x y l => exact fun w S q => two_swap w S q
  | trans _ _ h1 h2 => exact fun w S q => h2 w S (h1 w S q)

/-! ### told -/
abbrev Told := List (Int × Value × List Int)
def rowU (v : Value) (c : List Int) : Res := rowR 28 1 v c.length (c.map (Value.int .u64))
def toldL (T : Told) : List (Int × Value) := T.map fun y => (y.1, y.2.1)
def toldR (T : Told) : List Res := T.map fun y => rowU y.2.1 y.2.2
def tv (T : Told) (x : Int) : Value := ((lk T x).map (·.1)).getD (.slice none 0 0)
def tc (T : Told) (x : Int) : List Int := ((lk T x).map (·.2)).getD []
theorem lk_toldL : ∀ (T : Told) (x : Int), (lk (toldL T) x).getD (.slice none 0 0) = tv T x
  | [], x => rfl
  | (y, v, c) :: T, x => by
    have ih := lk_toldL T x
    unfold toldL tv at *
    by_cases e : y = x
    · simp [lk, e]
    · simp only [List.map_cons, lk, if_neg e]; exact ih
theorem put_toldL : ∀ (T : Told) (x : Int) (v : Value) (c : List Int), toldL (put T x (v, c)) = put (toldL T) x v
  | [], x, v, c => rfl
  | (y, u, d) :: T, x, v, c => by
    have ih := put_toldL T x v c
    unfold toldL at *
    by_cases e : y = x
    · simp [put, e]
    · simp only [put, if_neg e, List.map_cons, ih]
theorem put_perm {α : Type} : ∀ (T : List (Int × α)) (x : Int) (u : α), (put T x u).Perm ((x, u) :: del T x)
  | [], x, u => by simp [put, del]
  | (y, z) :: T, x, u => by
    by_cases e : y = x
    · simp [put, del, e]
    · simp only [put, del, if_neg e]
      exact ((put_perm T x u).cons (y, z)).trans (List.Perm.swap _ _ _)
theorem tv_put (T : Told) (x z : Int) (v : Value) (c : List Int) : tv (put T x (v, c)) z = if z = x then v else tv T z := by
  unfold tv; rw [lk_put]; split <;> rfl
theorem tc_put (T : Told) (x z : Int) (v : Value) (c : List Int) : tc (put T x (v, c)) z = if z = x then c else tc T z := by
  unfold tc; rw [lk_put]; split <;> rfl
theorem told_take (T : Told) (x : Int) (w : World) (S : Nat → Prop) (q : (allR (toldR T)).p w S) : (two (rowU (tv T x) (tc T x)) (allR (toldR (del T x)))).p w S := by
  cases e : lk T x with
  | none =>
    have e1 : tv T x = .slice none 0 0 := by unfold tv; rw [e]; rfl
    have e2 : tc T x = [] := by unfold tc; rw [e]; rfl
    rw [e1, e2, del_none e]
    classical
    exact two_iff.2 ⟨fun k => if S k then 2 else 0, fun k hk z => Classical.byContradiction fun n => z (if_neg n), Row.nil _ _ _ _, res_sub q fun k hk hs => by simp [hs]⟩
  | some y =>
    have e1 : tv T x = y.1 := by unfold tv; rw [e]; rfl
    have e2 : tc T x = y.2 := by unfold tc; rw [e]; rfl
    rw [e1, e2]
    have hp : T.Perm ((x, y) :: del T x) := by
      have h := put_perm T x y
      have h2 : put T x y = T := by
        clear h e1 e2 q
        induction T with
        | nil => simp [lk] at e
        | cons z T ih =>
          obtain ⟨z1, z2⟩ := z
          by_cases q : z1 = x
          · simp only [lk, if_pos q, Option.some.injEq] at e; simp [put, q, e]
          · simp only [lk, if_neg q] at e; simp [put, q, ih e]
      rwa [h2] at h
    exact allR_perm (hp.map fun y : Int × Value × List Int => rowU y.2.1 y.2.2) w S q
theorem told_put (T : Told) (x : Int) (v : Value) (c : List Int) (w : World) (S : Nat → Prop) (q : (two (rowU v c) (allR (toldR (del T x)))).p w S) : (allR (toldR (put T x (v, c)))).p w S :=
  allR_perm ((put_perm T x (v, c)).map fun y : Int × Value × List Int => rowU y.2.1 y.2.2).symm w S q
/-! ### two, opened and made -/
section
variable {K : Cx} {Q : Exit → Act → World → Prop} {σ : List (Nat × Value)} {Γ : List Res} {a b : Res}
theorem St.two {B : Nat → Prop} {w0 w : World} (h : St B w0 Γ w) (i : Nat) (hi : Γ[i]? = some (two a b)) : St B w0 (Γ.set i emp ++ [a, b]) w := by
  obtain ⟨_, hx⟩ := h.open (f := fun _ : Unit => [a, b]) i hi
  exact hx
theorem Cd.two {c : Code} (i : Nat) (hi : Γ[i]? = some (two a b)) (h : Cd K c Q σ (Γ.set i emp ++ [a, b])) : Cd K c Q σ Γ := fun x w hS hΓ => h x w hS (hΓ.two i hi)
theorem Sq.two {ops : Array Oper} {l : List Nat} (i : Nat) (hi : Γ[i]? = some (two a b)) (h : Sq K ops l Q σ (Γ.set i emp ++ [a, b])) : Sq K ops l Q σ Γ := fun x w hS hΓ => h x w hS (hΓ.two i hi)
theorem Ex'.mk2 {e : Exit} (i j : Nat) (hp : pickR Γ [i, j] = [a, b]) (h2 : nodupB [i, j] = true) (h3 : ([i, j].all fun i => Nat.blt i Γ.length) = true) (h : Ex' K e Q σ (setAll Γ [i, j] [emp, emp] ++ [Proofs.Ythbffkdfahlpdaa.two a b])) : Ex' K e Q σ Γ := fun x w hS hΓ =>
  h x w hS (hΓ.close (f := fun _ : Unit => [a, b]) () [i, j] (nodupB_spec h2) (fun i hi => by simpa using List.all_eq_true.1 h3 i hi) hp)
theorem Cd.addE {c : Code} (h : Cd K c Q σ (Γ ++ [emp])) : Cd K c Q σ Γ := fun x w hS hΓ => h x w hS (by
  have h1 := hΓ.close (f := fun _ : Unit => ([] : List Res)) () [] List.nodup_nil (fun i hi => by simp at hi) rfl
  have h2 := h1.conv (R := compR fun _ : Unit => ([] : List Res)) (R' := emp) Γ.length (by simp [setAll]) fun _ _ _ => trivial
  simpa [setAll] using h2)
end

/-! ### entries of a walk -/
section
variable {κ α : Type} {gk : κ → Value} {fv : α → Value} {b r : Nat} {l rest : List (κ × α)} {p : κ × α} {P : Program} {σ : List (Nat × Value)} {x : Operand} {dst : Option Tmp} {ty : TypeId} {pos : String} {after : Array Edge} {g : Option (Nat × Bool)}
/-- The walk stands at p. -/
def EntryAt (gk : κ → Value) (fv : α → Value) (w : World) (b r : Nat) (p : κ × α) : Prop :=
  ∃ (es : Array MapEntry) (clock since : Nat) (seen : Array Nat) (c0 : Nat) (e : MapEntry), w.heap[b]? = some (.map es clock) ∧ w.heap[r]? = some (.mapIter (some b) since (seen.push e.born) c0) ∧ c0 = clock ∧ e ∈ es.toList ∧ (es.toList.map (·.born)).Nodup ∧ e.key = gk p.1 ∧ e.val = fv p.2
theorem IterAt.nextE {w : World} (h : IterAt gk fv w b r l rest) (ty : TypeId) (h0 : rest ≠ []) :
    ∃ i p w', rest[i]? = some p ∧ (Instr.next (.pointer (some ⟨r, 0, none⟩)) false ty).run P w = .ok (.tuple #[.bool true, gk p.1, fv p.2]) w' ∧ IterAt gk fv w' b r l (rest.eraseIdx i) ∧ w.grownBy w' (some r) ∧ EntryAt gk fv w' b r p := by
  have hne := h.ne
  obtain ⟨h0', es, clock, since, seen, c0, hb, hst, hr, hold, hsc, hsk, hl, hsub⟩ := h
  rcases run_next_at (P := P) w ty r b since c0 seen es clock hr hb hold hsc with ⟨hz, hrun⟩ | ⟨e, he, w1, hal, hrun⟩
  · have e1 : (leftOf es seen).toList = [] := List.eq_nil_of_length_eq_zero (by simpa using hz)
    rw [e1] at hl
    exact absurd (by simpa using hl.symm) h0
  · obtain ⟨i, hi⟩ := List.getElem?_of_mem he
    have hi2 := congrArg (fun L => L[i]?) hl
    simp only [List.getElem?_map, hi, Option.map_some] at hi2
    obtain ⟨p, hp, hpe⟩ : ∃ p, rest[i]? = some p ∧ (gk p.1, fv p.2) = (e.key, e.val) := by
      cases hq : rest[i]? with
      | none => rw [hq] at hi2; simp at hi2
      | some p => rw [hq] at hi2; simp only [Option.map_some, Option.some.injEq] at hi2; exact ⟨p, rfl, hi2.symm⟩
    simp only [Prod.mk.injEq] at hpe
    rw [← hpe.1, ← hpe.2] at hrun
    have hr1 : w1.heap[r]? = some (.mapIter (some b) since seen c0) := by rcases hal with rfl | rfl <;> exact hr
    have hb1 : w1.heap[b]? = some (.map es clock) := by rcases hal with rfl | rfl <;> exact hb
    have hset := heap_set (o' := .mapIter (some b) since (seen.push e.born) clock) hr1
    have hb' := (hset.2 b (fun e1 => hne e1.symm)).trans hb1
    refine ⟨i, p, _, hp, hrun, ⟨h0'.same (hb'.trans hb.symm), es, clock, since, seen.push e.born, clock, hb', hst, hset.1, hold, hsk, hsk, ?_, (List.eraseIdx_sublist _ _).trans hsub⟩, ?_, ⟨es, clock, since, seen, clock, e, hb', hset.1, rfl, by unfold leftOf at he; rw [Array.toList_filter] at he; exact (List.mem_filter.1 he).1, hst.2.1, hpe.1.symm, hpe.2.symm⟩⟩
    · rw [left_push hst.2.1 hi, map_eraseI, map_eraseI, hl]
    · rcases hal with rfl | rfl <;> exact ⟨rfl, rfl, rfl, by simp [Go.ChangeMaps.setBlock], fun i _ hi => hset.2 i (fun e1 => hi (by rw [e1]))⟩
def iterE (gk : κ → Value) (fv : α → Value) (b r : Nat) (l rest : List (κ × α)) (p : κ × α) : Res :=
  ⟨fun w S => (IterAt gk fv w b r l rest ∧ S b ∧ S r) ∧ EntryAt gk fv w b r p, fun {w w' S S'} h hz hs => by
    obtain ⟨⟨h1, h2, h3⟩, es, clock, since, seen, c0, e, h4, h5, h6⟩ := h
    obtain ⟨a1, a2⟩ := hs b h1.1.lt h2
    obtain ⟨b1, b2⟩ := hs r h1.lt h3
    exact ⟨⟨h1.same a2 b2, a1, b1⟩, es, clock, since, seen, c0, e, a2.trans h4, b2.trans h5, h6⟩⟩
theorem iterE.it {w : World} {S : Nat → Prop} (h : (iterE gk fv b r l rest p).p w S) : (iterR gk fv b r l rest).p w S := h.1
theorem o_nextZ (hx : ev σ x = some (.pointer (some ⟨r, 0, none⟩))) (h0 : rest = []) :
    Opr P σ ⟨dst, .next x false, ty, pos, after, g⟩ [iterR gk fv b r l rest] (Same [iterR gk fv b r l rest] (.tuple #[.bool false])) := by
  subst h0; exact o_next0 hx
theorem o_nextE (hx : ev σ x = some (.pointer (some ⟨r, 0, none⟩))) (h0 : ¬ rest = []) :
    Opr P σ ⟨dst, .next x false, ty, pos, after, g⟩ [iterR gk fv b r l rest] (PostE (ι := Nat × κ × α) (fun y => rest[y.1]? = some y.2) (fun y => .tuple #[.bool true, gk y.2.1, fv y.2.2]) fun y => [iterE gk fv b r l (rest.eraseIdx y.1) y.2]) := by
  intro ρ hρ w own hH hO
  have hb : IterAt gk fv w b r l rest ∧ own b = 0 + 1 ∧ own r = 0 + 1 := hH 0 _ rfl
  obtain ⟨i, p, w', hp, hrun, hi, hg, he⟩ := hb.1.nextE (P := P) ty h0
  refine .inl ⟨_, w', .inl (by simp [execOp, hρ x _ hx, hrun, Result.andThen]; rfl), ?_⟩
  exact became_grown (R := iterR gk fv b r l rest) (by simpa using hb.2.2) hg (R' := iterE gk fv b r l (rest.eraseIdx i) p) ⟨⟨hi, by simpa using hb.2.1, by simpa using hb.2.2⟩, he⟩ _ ⟨(i, p), hp, rfl, rfl⟩
theorem o_entry (hx : ev σ x = some (.pointer (some ⟨r, 0, none⟩))) :
    Opr P σ ⟨dst, .entry x, ty, pos, after, g⟩ [iterE gk fv b r l rest p] (Same [iterE gk fv b r l rest p] (.tuple #[gk p.1, fv p.2])) := by
  intro ρ hρ w own hH hO
  have hb : (IterAt gk fv w b r l rest ∧ own b = 0 + 1 ∧ own r = 0 + 1) ∧ EntryAt gk fv w b r p := hH 0 _ rfl
  obtain ⟨es, clock, since, seen, c0, e, h4, h5, rfl, h6, h7, h8, h9⟩ := hb.2
  have hrun := run_entry_at (P := P) w r b since seen es c0 e h5 h4 h6 h7
  rw [h8, h9] at hrun
  exact .inl ⟨_, w, .inl (by simp [execOp, hρ x _ hx, hrun, Result.andThen]), became_same hH ⟨rfl, rfl⟩⟩
end

/-! ### tapes -/
def tapeR (b : Nat) (ls : List (List Int)) : Res := .of fun w S => TapeAt w b S ls
section
variable {w0 : World} {T : Nat → Prop} {v : Value} {ls : List (List Int)} {b : Nat} {i : Int}
theorem d_New (hL : Lanes w0 T v ls) (hb : ls.length ≤ 1000000) (hbs : ∀ l ∈ ls, l.length ≤ 1000000) : Tri Try.prog 15 #[v] [oldR w0] (PostE (fun _ => True) (fun b => pV b 0) fun b => [oldR w0] ++ [tapeR b ls]) := tri_makeP fun w own h => by
  obtain ⟨vs, h1, h2⟩ := hL
  have ho := h 0 _ rfl
  exact t_New v vs ls w T (oldR.cells ho h1) (h2.mono fun _ _ q => oldR.cells ho q) hb hbs
theorem d_Next (hi : -9223372036854775808 ≤ i ∧ i ≤ 9223372036854775807) : Tri Try.prog 17 #[pV b 0, iV i] [tapeR b ls] (Same [tapeR b (nx ls i)] (.int .u64 ((ln ls i).headD 0))) := tri_after fun w S h => t_Next h i hi
theorem d_Left (hi : -9223372036854775808 ≤ i ∧ i ≤ 9223372036854775807) : Tri Try.prog 21 #[pV b 0, iV i] [tapeR b ls] (Same [tapeR b ls] (iV ((ln ls i).length : Int))) := tri_same fun w own h => tape_Left (show TapeAt w b (fun k => own k = 0 + 1) ls from h 0 _ rfl) i hi
theorem awake_draw : Tri Try.prog 14 #[] [] (Same [] (bV true)) := fun w own hH hO => (draw_awake w).mono fun e w' ⟨h1, h2⟩ => ⟨_, h1, [], fun _ => 0, ⟨rfl, rfl⟩, fun i R hi => by simp at hi, h2.mono fun k hk q => q.elim, fun k hk q => absurd rfl q⟩
theorem lanes_at {w : World} {S : Nat → Prop} {a : Option Addr} {n cap : Nat} (h : Lanes w S (.slice a n cap) ls) {k : Nat} (hk : k < ls.length) : ∃ g off, a = some ⟨g, off, none⟩ ∧ ∃ l b c, ls[k]? = some l ∧ w.cell? ⟨g, off + k, none⟩ = some (.slice b l.length c) := by
  obtain ⟨g, off, b, c, e, h1, _⟩ := h.one hk
  exact ⟨g, off, e, ls[k], b, c, List.getElem?_eq_getElem hk, h1⟩
theorem get_mapU {ks : List Int} {k : Nat} (h : k < ks.length) : (ks.map (Value.int .u64))[k]? = some (.int .u64 (ks.getD k 0)) := by
  rw [List.getElem?_map, List.getElem?_eq_getElem h, List.getD_eq_getElem?_getD, List.getElem?_eq_getElem h]; rfl
end

/-! ### ints that came in -/
structure IntsIn (w : World) (v : Value) (xs : List Int) : Prop where
  cells : Cells w (fun k => k < w.heap.size) v xs.length 1 (xs.map fun x => iV x)
  wf : ∀ x ∈ xs, -9223372036854775808 ≤ x ∧ x ≤ 9223372036854775807
theorem IntsIn.addr {w : World} {xs : List Int} {a : Option Addr} {n cap : Nat} (h : IntsIn w (.slice a n cap) xs) (hn : 0 < xs.length) : ∃ g off, a = some ⟨g, off, none⟩ := by
  have hl : n = xs.length := by obtain ⟨a', cap', e, _⟩ := h.cells; injection e
  subst hl
  obtain ⟨g, off, e, _⟩ := h.cells.addr hn; exact ⟨g, off, e⟩
theorem IntsIn.at {w : World} {xs : List Int} {g off n cap : Nat} (h : IntsIn w (.slice (some ⟨g, off, none⟩) n cap) xs) {k : Nat} (hk : k < xs.length) : ∃ x, xs[k]? = some x ∧ (-9223372036854775808 ≤ x ∧ x ≤ 9223372036854775807) ∧ w.rangeAt g (off + k) [iV x] := by
  have hl : n = xs.length := by obtain ⟨a', cap', e, _⟩ := h.cells; injection e
  subst hl
  obtain ⟨g', off', e, _, _, hcell⟩ := h.cells.addr (show 0 < xs.length by omega)
  cases e
  refine ⟨xs[k], List.getElem?_eq_getElem hk, h.wf _ (List.getElem_mem hk), fun j v hj => ?_⟩
  match j, hj with
  | 0, hj =>
    cases hj
    exact hcell k _ (by rw [List.getElem?_map, List.getElem?_eq_getElem hk]; rfl)
theorem IntsIn.shape {w : World} {xs : List Int} {v : Value} (h : IntsIn w v xs) : ∃ a cap, v = .slice a xs.length cap := by
  obtain ⟨a, cap, e, _⟩ := Cells.shape h.cells; exact ⟨a, cap, e⟩
theorem ints_of {w : World} {v : Value} {xs : List {a : Int // (Lit.int .i64 a).wf = true}} (h : Cells w (fun k => k < w.heap.size) v xs.length 1 (xs.flatMap fun x => [Value.int .i64 x.1])) : IntsIn w v (xs.map Subtype.val) := by
  refine ⟨?_, fun x hx => ?_⟩
  · rw [List.length_map, List.map_map]
    have e : xs.flatMap (fun x => [Value.int .i64 x.1]) = xs.map ((fun x => iV x) ∘ Subtype.val) := by
      clear h
      induction xs with
      | nil => rfl
      | cons x xs ih => rw [List.flatMap_cons, ih]; rfl
    rw [← e]; exact h
  · obtain ⟨y, _, rfl⟩ := List.mem_map.1 hx
    have := y.2; simp [Lit.wf] at this; exact this

/-! ### what is told -/
def says (l : List Int) : Nat → List Int
  | 0 => []
  | n + 1 => says l n ++ [(l.drop n).headD 0]
theorem says_len (l : List Int) : ∀ n, (says l n).length = n
  | 0 => rfl
  | n + 1 => by simp [says, says_len l n]
theorem says_get (l : List Int) : ∀ {n i : Nat}, i < n → (says l n).getD i 0 = (l.drop i).headD 0
  | 0, i, h => absurd h (Nat.not_lt_zero _)
  | n + 1, i, h => by
    unfold says
    by_cases e : i < n
    · have := says_get l e
      rw [List.getD_eq_getElem?_getD] at this ⊢
      rw [List.getElem?_append_left (by rw [says_len]; exact e)]; exact this
    · have e : i = n := by omega
      subst e
      rw [List.getD_eq_getElem?_getD, List.getElem?_append_right (by rw [says_len]; exact Nat.le_refl _), says_len]; simp
theorem del_sub {α : Type} : ∀ (T : List (Int × α)) (x : Int), ∀ y ∈ del T x, y ∈ T
  | [], x, y, h => h
  | (a, b) :: T, x, y, h => by
    by_cases e : a = x
    · simp only [del, if_pos e] at h; exact List.mem_cons_of_mem _ h
    · simp only [del, if_neg e] at h
      rcases List.mem_cons.1 h with rfl | h
      · exact List.mem_cons_self
      · exact List.mem_cons_of_mem _ (del_sub T x y h)
structure TR (ls ts : List (List Int)) (T : Told) (k : Nat) : Prop where
  nod : (T.map (·.1)).Nodup
  told : ∀ x, tc T x = says (ln ls x) (tc T x).length
  left : ∀ x, ln ts x = (ln ls x).drop (tc T x).length
  few : ∀ x, (tc T x).length ≤ k
  keys : ∀ y ∈ T, -9223372036854775808 ≤ y.1 ∧ y.1 ≤ 9223372036854775807
theorem TR.new (ls : List (List Int)) : TR ls ls [] 0 := ⟨List.nodup_nil, fun x => rfl, fun x => rfl, fun x => Nat.le_refl _, fun y h => by simp at h⟩
theorem TR.step {ls ts : List (List Int)} {T : Told} {k : Nat} (h : TR ls ts T k) {x : Int} (hx : -9223372036854775808 ≤ x ∧ x ≤ 9223372036854775807) (v : Value) : TR ls (nx ts x) (put T x (v, tc T x ++ [(ln ts x).headD 0])) (k + 1) := by
  refine ⟨nodup_put h.nod _ _, fun z => ?_, fun z => ?_, fun z => ?_, fun y hy => ?_⟩
  · rw [tc_put]
    split
    · rename_i e; subst e
      rw [List.length_append, List.length_singleton, says, ← h.told z, h.left z]
    · exact h.told z
  · rw [tc_put, ln_nx]
    split
    · rename_i e; subst e
      rw [h.left z, List.tail_drop, List.length_append, List.length_singleton]
    · exact h.left z
  · rw [tc_put]
    have := h.few z
    split
    · rename_i e; subst e; rw [List.length_append, List.length_singleton]; omega
    · omega
  · rcases List.mem_cons.1 ((put_perm T x (v, tc T x ++ [(ln ts x).headD 0])).subset hy) with rfl | hy
    · exact hx
    · exact h.keys y (del_sub T x y hy)
theorem TR.at {ls ts : List (List Int)} {T : Told} {k : Nat} (h : TR ls ts T k) {x : Int} {v : Value} {c : List Int} (hy : (x, v, c) ∈ T) : c = Proofs.Ythbffkdfahlpdaa.says (ln ls x) c.length ∧ ln ts x = (ln ls x).drop c.length ∧ c.length ≤ k ∧ -9223372036854775808 ≤ x ∧ x ≤ 9223372036854775807 := by
  have e : tc T x = c := by unfold tc; rw [lk_of_mem h.nod hy]; rfl
  have h1 := h.told x; have h2 := h.left x; have h3 := h.few x
  rw [e] at h1 h2 h3
  exact ⟨h1, h2, h3, h.keys _ hy⟩
theorem told_at {T : Told} {rest : List (Int × Value)} (hs : rest.Sublist (toldL T)) {i : Nat} {x : Int} {v : Value} (h : rest[i]? = some (x, v)) : ∃ c, (x, v, c) ∈ T := by
  obtain ⟨⟨x', v', c⟩, hm, e⟩ := List.mem_map.1 (hs.subset (List.mem_of_getElem? h))
  cases e; exact ⟨c, hm⟩
theorem mem_perm {α : Type} {l : List α} {y : α} (h : y ∈ l) : ∃ t, l.Perm (y :: t) := by
  obtain ⟨s, t, rfl⟩ := List.append_of_mem h
  exact ⟨s ++ t, List.perm_middle⟩
theorem all_take {T T' : Told} {x : Int} {v : Value} {c : List Int} (h : T.Perm ((x, v, c) :: T')) (w : World) (S : Nat → Prop) (q : (allR (toldR T)).p w S) : (two (rowU v c) (allR (toldR T'))).p w S :=
  allR_perm (h.map fun y : Int × Value × List Int => rowU y.2.1 y.2.2) w S q
theorem all_put {T T' : Told} {x : Int} {v : Value} {c : List Int} (h : T.Perm ((x, v, c) :: T')) (w : World) (S : Nat → Prop) (q : (two (rowU v c) (allR (toldR T'))).p w S) : (allR (toldR T)).p w S :=
  allR_perm (h.symm.map fun y : Int × Value × List Int => rowU y.2.1 y.2.2) w S q
theorem told_take' (T : Told) (x : Int) (w : World) (S : Nat → Prop) (q : (allR (toldR T)).p w S) : (two (rowU ((lk (toldL T) x).getD (.slice none 0 0)) (tc T x)) (allR (toldR (del T x)))).p w S := by
  rw [lk_toldL]; exact told_take T x w S q
end Go.Proofs.Ythbffkdfahlpdaa
