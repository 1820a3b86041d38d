/- slices.Collect(maps.Values(m)) at items. Over any map; no condition but that there are few. -/
import Derived.Test.YtnijaeipkbpibaaDoorIterD
import Derived.Test.YtnijaeipkbpibaaDoorValW
import Derived.RangeFuncFrom
import Derived.RangeFuncLeaves
import Derived.WalkKit
import Derived.OwnWalkIn
import Derived.TacticsInMore
import Derived.RegionIn
import Derived.LoopNIn
import Derived.LoopIn
import Derived.Maps.AppendAt
import Derived.Shelf.Abstract
set_option linter.unusedVariables false
set_option linter.unusedSimpArgs false
namespace Go.Proofs.YtnijaeipkbpibaaDoor
open Go.RowKit Go.MapKept
abbrev it3 (y : It) : List Value := [sV y.1, sV y.2.1, iV y.2.2]
set_option maxRecDepth 100000 in
set_option maxHeartbeats 1000000 in
theorem values_it (F : Fence) (n : Nat) (h7 : F.fn 47) (hro : F.round = none) (hn : 1 ≤ n) (l Bm b : Nat) (M : List (ByteArray × It)) (J Jx : List It → World → Prop)
    (hY : ∀ pre x W, J pre W → pre.length < M.length → YieldAt F (n - 1) Tryd.prog l #[itV x] W fun e W' => (e = .returned (.bool true) ∧ J (pre ++ [x]) W' ∧ KeepsWalks W W') ∨ (e = .returned (.bool false) ∧ Jx (pre ++ [x]) W'))
    (W : World) (hJ : AbidesFrom W.heap.size J) (hm : W.cell? ⟨Bm, 0, none⟩ = some (.map (some b))) (hmap : MapAt Value.string itV W b M) (h0 : J [] W) :
    CallsIn F n Tryd.prog 47 #[.func (.yield l) #[] #[], .pointer (some ⟨Bm, 0, none⟩)] W fun e W' => (∃ v, e = .returned v) ∧ ((∃ xs, xs.Perm (M.map (·.2)) ∧ J xs W') ∨ (∃ pre, True ∧ Jx pre W')) := by
  refine callsIn_of_wp Tryd.func47 rfl h7 ?_ hro
  simp only [Tryd.ntmps47, List.size_toArray, List.length_cons, List.length_nil, Nat.reduceAdd, Nat.reduceSub, Array.replicate_succ, Array.replicate_zero, List.push_toArray, List.append_toArray, List.nil_append, List.cons_append]
  gi_wp2_with (first
    | (gi_at_range; refine wpListIn_rangeM _ rfl _ 61 rfl 9 24 Tryd.underlying61 b rfl hmap ?_; intro w0 hit0 hg0 hs0)
    | gi_in)
  go_frame
  gi_loopw [4] (fun _ wr => ∃ (rest : List (ByteArray × It)) (xs : List It), IterAt Value.string itV wr b W.heap.size M rest ∧ (xs ++ rest.map (·.2)).Perm (M.map (·.2)) ∧ J xs wr)
    (fun _ wr => wr.rangeLeft b W.heap.size)
  case atStart =>
    exact ⟨M, [], hit0, by simp, hJ [] W w0 none h0 hg0 (fun r e => by cases e)⟩
  case round =>
    obtain ⟨rest, xs, hit, hp, hJs⟩ := hrel
    gi_wp2_with (first
      | (gi_at_next; refine wpListIn_nextM _ rfl _ rfl b W.heap.size rfl hit ?_ ?_)
      | gi_in)
    · intro h0
      subst h0
      gi_wp2
      go_end0
      exact ⟨⟨_, rfl⟩, .inl ⟨xs, by simpa using hp, hJs⟩⟩
    · intro i key x1 x2 x3 w2 hip hit2 hg2 hs2 hen
      obtain ⟨x, hx⟩ : ∃ x : It, (x1, x2, x3) = x := ⟨_, rfl⟩
      have ex1 : x1 = x.1 := by rw [← hx]
      have ex2 : x2 = x.2.1 := by rw [← hx]
      have ex3 : x3 = x.2.2 := by rw [← hx]
      rw [hx] at hip
      rw [ex1, ex2, ex3] at hen
      rw [ex1, ex2, ex3]
      clear ex1 ex2 ex3 hx
      have hJ2 : J xs w2 := hJ xs wr w2 (some W.heap.size) hJs hg2 (fun r e => by cases e; exact ⟨Nat.le_refl _, hit.isW⟩)
      have hlen : xs.length < M.length := by
        have := hp.length_eq
        have h3 := erase_len hip
        simp at this; omega
      have hp2 : ((xs ++ [x]) ++ (rest.eraseIdx i).map (·.2)).Perm (M.map (·.2)) := by
        refine List.Perm.trans ?_ hp
        rw [List.append_assoc]
        exact List.Perm.append_left xs ((erase_perm hip).map (fun p : ByteArray × It => p.2)).symm
      have hlt := erase_len hip
      clear hs2
      gi_wp2_with (first
        | (refine in_alloc _ rfl 24 rfl [sV ⟨#[]⟩, sV ⟨#[]⟩, iV 0] (fun w => by kernel_rfl) ?_; intro w3 hB3 hg3 hs3)
        | (refine in_store _ rfl 24 _ _ rfl rfl rfl hB3 (by kernel_rfl) rfl rfl ?_; intro w4 hB4 hg4 hs4; have hg24 := hg3.andThen hg4 (fun j e => by cases e; exact .inl (Nat.le_refl _)); have hJ4 : J xs w4 := hJ xs w2 w4 none hJ2 hg24 (fun r e => by cases e); obtain ⟨fn, tmps, assign, body, hy, hR⟩ := hY xs x w4 hJ4 hlen)
        | (refine in_load _ rfl 24 _ rfl [sV x.1, sV x.2.1, iV x.2.2] rfl hB4 (by kernel_rfl) ?_)
        | gi_in)
      have hit4 := hit2.same (hg24.block b hit2.1.lt (by simp)) (hg24.block _ hit2.lt (by simp))
      refine hR.mono ?_
      rintro e W3 (⟨rfl, hJ3, hk3⟩ | ⟨rfl, hJx3⟩)
      · gi_wp2
        have hit3 := hit4.of_walks hk3
        go_roundw
        case rel => exact ⟨_, xs ++ [x], hit3, hp2, hJ3⟩
        case measure => rw [hit3.left_eq, hit.left_eq]; exact hlt
      · gi_wp2
        refine bodyPost_ret (results_none rfl _ _ _) rfl ?_
        exact ⟨⟨_, rfl⟩, .inr ⟨xs ++ [x], trivial, hJx3⟩⟩

theorem values_stops (F : Fence) (n : Nat) (h7 : F.fn 47) (hro : F.round = none) (hn : 1 ≤ n) (Bm b : Nat) (M : List (ByteArray × It)) (w : World) (hBm : Bm < w.heap.size)
    (hm : w.cell? ⟨Bm, 0, none⟩ = some (.map (some b))) (hmap : MapAt Value.string itV w b M) :
    SeqStopsK F n Tryd.prog 47 #[.pointer (some ⟨Bm, 0, none⟩)] (fun x : It => #[itV x]) KeepsWalks (fun xs => xs.Perm (M.map (·.2))) (fun _ => True) M.length w := fun l J Jx W hW hJ _ hY h0 =>
  values_it F n h7 hro hn l Bm b M J Jx hY W hJ ((hW.cell (p := ⟨Bm, 0, none⟩) hBm).trans hm) (hmap.same (hW.block b hmap.lt)) h0

theorem own_kept {W W' : World} {row : Option Nat} {base : Nat} {e : TypeId} {size : Nat} {v : Value} {k : Nat} {xs : List Value} (h : W.ownsRow base e size v k xs) (hg : W.grownBy W' row)
    (hrow : ∀ r, row = some r → ∃ o : Obj, W.heap[r]? = some o ∧ o.isCells = false) : W'.ownsRow base e size v k xs := by
  refine h.kept hg ?_
  rcases h.2 with ⟨rfl, _⟩ | ⟨g, cap, cur, rfl, _, hgb, _⟩
  · exact .inl rfl
  · refine .inr fun e' => ?_
    obtain ⟨o, ho, hw⟩ := hrow g (by simpa [Value.ownBlock] using e'.symm)
    rw [hgb] at ho; cases ho; cases hw
theorem own_walk {W : World} {base : Nat} {e : TypeId} {size : Nat} {v : Value} {k : Nat} {xs : List Value} (h : W.ownsRow base e size v k xs) : ∀ (j : Nat) (o : Obj), v.ownBlock = some j → W.heap[j]? = some o → o.isCells = true := by
  intro j o hj ho
  rcases h.2 with ⟨rfl, _⟩ | ⟨g, cap, cur, rfl, _, hgb, _⟩
  · simp [Value.ownBlock] at hj
  · have : g = j := by simpa [Value.ownBlock] using hj
    subst this; rw [hgb] at ho; cases ho; rfl
theorem box_cell {W : World} {B : Nat} {v : Value} {t : TypeId} (h : W.heap[B]? = some (.cells #[v] t (0, 0))) : W.cell? ⟨B, 0, none⟩ = some v ∧ W.frozen? ⟨B, 0, none⟩ = false := by
  constructor <;> simp [World.cell?, World.frozen?, h]
theorem box_set {W : World} {B : Nat} {v : Value} {t : TypeId} (v' : Value) (h : W.heap[B]? = some (.cells #[v] t (0, 0))) : (W.setCell ⟨B, 0, none⟩ v').heap[B]? = some (.cells #[v'] t (0, 0)) := by
  obtain ⟨hlt, hk⟩ := Array.getElem?_eq_some_iff.1 h
  show (W.heap.modify B _)[B]? = _
  rw [Array.getElem?_eq_getElem (by rw [Array.size_modify]; exact hlt), Array.getElem_modify_self, hk]
  rfl
abbrev seqV (Bm : Nat) : Value := .func (.func 47) #[] #[.pointer (some ⟨Bm, 0, none⟩)]
/-- The loop's record: its temporaries as they stood at the entering. -/
def apRec (fn : FuncId) (sv : Value) (Bs D : Nat) (ac bd : Code) (st : LoopState) (pend : Option Code) : Loop :=
  { state := st, pending := pend, fn, tmps := #[.slice none 0 0, sv, .pointer (some ⟨Bs, 0, none⟩), undef, .slice none 0 0, undef, sv, undef, undef, undef, undef, undef, undef], params := #[7], assign := ac, body := bd, defers := D }
/-- On the way: the box has a slice of its own, of what has come; the record, the block of deferred calls, what was there. -/
structure Mid (w0 : World) (Bs l D : Nat) (rec : Loop) (v : Value) (xs : List It) (w : World) : Prop where
  bx : w.heap[Bs]? = some (.cells #[v] 42 (0, 0))
  row : w.ownsRow w0.heap.size 24 3 v xs.length (xs.flatMap it3)
  L : w.heap[l]? = some (.loop rec)
  K : w.heap[D]? = some (.deferred (some []))
  b : Below w0.heap.size w0 w
section
variable {w0 w w' : World} {Bs l D : Nat} {rec : Loop} {v : Value} {xs : List It}
theorem Mid.vlt (h : Mid w0 Bs l D rec v xs w) : Bs < w.heap.size := (Array.getElem?_eq_some_iff.1 h.bx).1
theorem Mid.llt (h : Mid w0 Bs l D rec v xs w) : l < w.heap.size := (Array.getElem?_eq_some_iff.1 h.L).1
theorem Mid.dlt (h : Mid w0 Bs l D rec v xs w) : D < w.heap.size := (Array.getElem?_eq_some_iff.1 h.K).1
theorem Mid.none (h : Mid w0 Bs l D rec v xs w) (hg : w.grownBy w' none) : Mid w0 Bs l D rec v xs w' :=
  ⟨(hg.block Bs h.vlt (by simp)).trans h.bx, h.row.kept hg (by cases hv : v.ownBlock <;> simp), (hg.block l h.llt (by simp)).trans h.L, (hg.block D h.dlt (by simp)).trans h.K, h.b.grown hg h.b.size (fun k e => by cases e)⟩
theorem Mid.new (h : Mid w0 Bs l D rec v xs w) {j : Nat} (hg : w.grownBy w' (some j)) (h1 : Bs < j) (h2 : l < j) (h3 : D < j) (h4 : ∀ g, v.ownBlock = some g → g < j) (h5 : w0.heap.size ≤ j) : Mid w0 Bs l D rec v xs w' :=
  ⟨(hg.block Bs h.vlt (by simp; omega)).trans h.bx, h.row.kept hg (by
    cases hv : v.ownBlock with
    | none => simp
    | some g => have := h4 g hv; right; simp; omega), (hg.block l h.llt (by simp; omega)).trans h.L, (hg.block D h.dlt (by simp; omega)).trans h.K, h.b.grown hg h.b.size (fun k e => by cases e; exact h5)⟩
end
/-- Between two rounds. -/
def ApAt (w0 : World) (fn : FuncId) (sv : Value) (Bs l D : Nat) (ac bd : Code) (xs : List It) (W : World) : Prop := ∃ v, Mid w0 Bs l D (apRec fn sv Bs D ac bd .ready none) v xs W
theorem putObj_grown (W : World) (l : Nat) (o : Obj) : W.grownBy (W.putObj l o) (some l) :=
  ⟨rfl, rfl, rfl, by simp, fun k _ hk => World.putObj_heap_other (fun e => hk (by rw [e]))⟩
theorem setCell0_grown (W : World) (b : Nat) (v : Value) : W.grownBy (W.setCell ⟨b, 0, none⟩ v) (some b) :=
  ⟨rfl, rfl, rfl, (KeepsWalks.setCell W _ v).size, fun k _ hk => Below.heap_setCell _ _ _ k (fun e => hk (by rw [e]))⟩
theorem own_ne {W : World} {base : Nat} {e : TypeId} {size : Nat} {v : Value} {k : Nat} {xs : List Value} (h : W.ownsRow base e size v k xs) {j : Nat} {o : Obj} (hj : W.heap[j]? = some o) (hno : ∀ cur, o ≠ .cells cur e (0, 0)) :
    v.ownBlock = none ∨ v.ownBlock ≠ some j := by
  rcases h.2 with ⟨rfl, _⟩ | ⟨g, cap, cur, rfl, _, hgb, _⟩
  · exact .inl rfl
  · refine .inr fun e' => ?_
    have : g = j := by simpa [Value.ownBlock] using e'
    subst this; rw [hgb] at hj; cases hj; exact hno cur rfl
def rfA : Option Code → Code
  | some (.seq _ (.seq (.seq _ (.block _ (.rangeFunc _ _ a _))) _)) => a
  | _ => .skip
def rfB : Option Code → Code
  | some (.seq _ (.seq (.seq _ (.block _ (.rangeFunc _ _ _ a))) _)) => a
  | _ => .skip
theorem ap_abides (w0 : World) (fn : FuncId) (sv : Value) (Bs l D : Nat) (ac bd : Code) (B : Nat) (hB : w0.heap.size ≤ B) : AbidesFrom B (ApAt w0 fn sv Bs l D ac bd) := fun s W W' row h hg hrow => by
  have hrow' : ∀ r, row = some r → ∃ o : Obj, W.heap[r]? = some o ∧ o.isWalk = true := fun r e => (hrow r e).2
  obtain ⟨v, h⟩ := h
  exact ⟨v, (grownBy_keeps hg hrow' h.bx rfl).trans h.bx, own_kept h.row hg (fun r e => by
    obtain ⟨o, ho, hw⟩ := hrow' r e
    exact ⟨o, ho, by cases o <;> first | rfl | (simp [Obj.isWalk] at hw)⟩), (grownBy_keeps hg hrow' h.L rfl).trans h.L, (grownBy_keeps hg hrow' h.K rfl).trans h.K,
    h.b.grown hg h.b.size (fun k e => Nat.le_trans hB (hrow k e).1)⟩
theorem sl_it : ElemT Tryd.prog 42 24 3 40 := elemT (z := .agg #[.string ⟨#[]⟩, .string ⟨#[]⟩, .int .i64 0]) Tryd.underlying42 (by kernel_rfl) rfl
set_option maxRecDepth 100000 in
set_option maxHeartbeats 2000000 in
theorem apYield (F : Fence) (m : Nat) (w0 : World) (fn : FuncId) (hfn : F.fn fn) (sv : Value) (Bs l D : Nat) (hBl : Bs ≠ l) (hDl : D ≠ l) (hDB : D ≠ Bs) (h0B : w0.heap.size ≤ Bs) (h0l : w0.heap.size ≤ l)
    {r0 r1 r4 ac bd : Code} {g : Operand} {ps : Array Tmp} {i0 : Nat} (hcode : Tryd.f57.body = some (.seq r0 (.seq (.seq r1 (.block i0 (.rangeFunc g ps ac bd))) r4)))
    (N : Nat) (hN : N ≤ 1000000000) (xs : List It) (x : It) (W : World) (h : ApAt w0 fn sv Bs l D ac bd xs W) (hlen : xs.length < N) :
    YieldAt F m Tryd.prog l #[itV x] W fun e W' => e = .returned (.bool true) ∧ ApAt w0 fn sv Bs l D ac bd (xs ++ [x]) W' ∧ KeepsWalks W W' := by
  obtain ⟨v, h⟩ := h
  obtain ⟨i1, hi, hz0, hz1, hz2⟩ : ∃ i1, Tryd.prog.info? 24 = some i1 ∧ i1.zero = some (.agg #[.string ⟨#[]⟩, .string ⟨#[]⟩, .int .i64 0]) ∧ i1.size = 3 ∧ i1.bytes = 40 := by
    have : (Tryd.prog.info? 24).map (fun i => (i.zero, i.size, i.bytes)) = some (some (.agg #[.string ⟨#[]⟩, .string ⟨#[]⟩, .int .i64 0]), 3, 40) := by kernel_rfl
    cases hq : Tryd.prog.info? 24 with
    | none => rw [hq] at this; cases this
    | some i => rw [hq] at this; simp only [Option.map_some, Option.some.injEq, Prod.mk.injEq] at this; exact ⟨i, rfl, this.1, this.2.1, this.2.2⟩
  refine ⟨fn, #[.slice none 0 0, sv, .pointer (some ⟨Bs, 0, none⟩), undef, .slice none 0 0, undef, sv, itV x, undef, undef, undef, undef, undef], ac, bd, by simpa [apRec] using run_yield (P := Tryd.prog) (args := #[itV x]) h.L rfl, roundIn_of_wpIn hfn ?_⟩
  have hc := hcode
  rw [show Tryd.f57.body = some _ from rfl] at hc
  simp only [Option.some.injEq, Code.seq.injEq, Code.block.injEq, Code.rangeFunc.injEq] at hc
  obtain ⟨-, ⟨-, -, -, -, rfl, rfl⟩, -⟩ := hc
  clear hcode
  gi_wp2_with (first
    | (refine in_alloc _ rfl 24 rfl [sV ⟨#[]⟩, sV ⟨#[]⟩, iV 0] (fun w => by kernel_rfl) ?_; intro w3 hB3 hg3 hs3; have M3 := h.none hg3; have hk3 : KeepsWalks W w3 := KeepsWalks.of_grownBy hg3 (fun j o e => by cases e))
    | (refine in_store _ rfl 24 _ _ rfl rfl rfl hB3 (by kernel_rfl) rfl rfl ?_; intro w4 hB4 hg4 hs4; have M4 := M3.new hg4 h.vlt h.llt h.dlt (fun g e => (h.row.lt g e).2) h.b.size; have hk4 : KeepsWalks W w4 := hk3.trans (KeepsWalks.of_grownBy hg4 (fun j o e ho => by cases e; rw [hB3.1] at ho; cases ho; rfl)))
    | (rw [Oper.semAt_eq _ _ _ (fun c h => by cases h)]; go_simp; try go_bits))
  obtain ⟨W2, hW2⟩ : ∃ W2, w4.putObj l (.loop { apRec fn sv Bs D (rfA Tryd.f57.body) (rfB Tryd.f57.body) .ready none with state := .busy }) = W2 := ⟨_, rfl⟩
  have hbr : (Instr.beginRound l).run Tryd.prog w4 = .ok () W2 := by rw [← hW2]; exact run_beginRound (P := Tryd.prog) M4.L rfl
  have hk2 : KeepsWalks W W2 := hk4.trans (by rw [← hW2]; exact KeepsWalks.putObj _ M4.L rfl)
  have hg2 : w4.grownBy W2 (some l) := by rw [← hW2]; exact putObj_grown _ _ _
  have hlB : W.heap.size ≠ l := by have := h.llt; omega
  have hB2 : BlkAt W2 Any1 W.heap.size [sV x.1, sV x.2.1, iV x.2.2] 24 := BlkAt.grown hB4 hg2 (by simp; omega)
  have M2 : Mid w0 Bs l D { apRec fn sv Bs D (rfA Tryd.f57.body) (rfB Tryd.f57.body) .ready none with state := .busy } v xs W2 :=
    ⟨by rw [← hW2]; exact (World.putObj_heap_other hBl).trans M4.bx, M4.row.kept hg2 (own_ne M4.row M4.L (fun cur e => by cases e)), by rw [← hW2]; exact World.putObj_heap_same M4.llt, by rw [← hW2]; exact (World.putObj_heap_other hDl).trans M4.K, M4.b.grown hg2 M4.b.size (fun k e => by cases e; exact h0l)⟩
  obtain ⟨hc2, hf2⟩ := box_cell M2.bx
  clear hW2 hg2
  refine ⟨W2, hbr, ?_⟩
  gi_wp2_with (first
    | (refine in_load _ rfl 24 _ rfl [sV x.1, sV x.2.1, iV x.2.2] rfl hB2 (by kernel_rfl) ?_)
    | (refine in_build _ rfl 42 24 1 3 _ rfl (.agg #[.string ⟨#[]⟩, .string ⟨#[]⟩, .int .i64 0]) [sV x.1, sV x.2.1, iV x.2.2] Tryd.underlying42 (by kernel_rfl) (by kernel_rfl) (by kernel_rfl) (by kernel_rfl) ?_; intro w5 hB5 hg5 hs5; have M5 := M2.none hg5; have hk5 : KeepsWalks W w5 := hk2.trans (KeepsWalks.of_grownBy hg5 (fun j o e => by cases e)))
    | (gi_at_builtin; refine wpListIn_append_own _ rfl _ _ 42 rfl w0.heap.size 24 i1 _ 3 40 Tryd.underlying42 hi hz0 hz1 hz2 rfl (by decide) _ _ _ rfl M5.row ⟨W2.heap.size, 0, none⟩ 1 1 [sV x.1, sV x.2.1, iV x.2.2] rfl rfl (fun j u hj => by rw [addr_add]; simpa using hB5.1.at j u hj) (by simp [Value.oneCell']) (by unfold maxLen; omega) (by omega) M5.b.size ?_; intro v' w6 hown' hg6 hnil6; have hg6' : w5.grownBy w6 v.ownBlock := hg6; have hv6 : w6.heap[Bs]? = some (.cells #[v] 42 (0, 0)) := (hg6'.block Bs M5.vlt (fun q => (own_ne M5.row M5.bx (fun cur e => by cases e)).elim (fun e => by rw [e] at q; cases q) (fun e => e q.symm))).trans M5.bx; obtain ⟨hc6, hf6⟩ := box_cell hv6; obtain ⟨g', cap', cur', rfl, hbase', hgb', hr1, hr2, hr3, hr4⟩ : ∃ g' cap' cur', v' = .slice (some ⟨g', 0, none⟩) (xs.length + 1) cap' ∧ w0.heap.size ≤ g' ∧ w6.heap[g']? = some (.cells cur' 24 (0, 0)) ∧ xs.length + 1 ≤ cap' ∧ cap' ≤ maxLen ∧ cur'.size = cap' * 3 ∧ cur'.toList.take ((xs.length + 1) * 3) = xs.flatMap it3 ++ [sV x.1, sV x.2.1, iV x.2.2] := (hown'.2.resolve_left (fun h0 => absurd h0.2 (by omega))); go_frame)
    | (rw [Oper.semAt_eq _ _ _ (fun c h => by cases h)]; go_simp; try go_bits))
  have ne6 : ∀ {j : Nat} {o : Obj}, w5.heap[j]? = some o → (∀ cur, o ≠ .cells cur 24 (0, 0)) → some j ≠ v.ownBlock := fun hj hno => by
    rcases own_ne M5.row hj hno with e | e
    · rw [e]; simp
    · exact fun q => e q.symm
  have hL6 := (hg6'.block l M5.llt (ne6 M5.L (fun cur e => by cases e))).trans M5.L
  have hK6 := (hg6'.block D M5.dlt (ne6 M5.K (fun cur e => by cases e))).trans M5.K
  have hb6 : Below w0.heap.size w0 w6 := M5.b.grown hg6' M5.b.size (fun k e => (M5.row.lt k e).1)
  obtain ⟨w7, hw7⟩ : ∃ w7, w6.setCell ⟨Bs, 0, none⟩ (.slice (some ⟨g', 0, none⟩) (xs.length + 1) cap') = w7 := ⟨_, rfl⟩
  rw [hw7]
  have hg7 : w6.grownBy w7 (some Bs) := by rw [← hw7]; exact setCell0_grown _ _ _
  have hv7 : w7.heap[Bs]? = some (.cells #[.slice (some ⟨g', 0, none⟩) (xs.length + 1) cap'] 42 (0, 0)) := by rw [← hw7]; exact box_set _ hv6
  have hL7 := (hg7.block l (Array.getElem?_eq_some_iff.1 hL6).1 (fun e => hBl (by cases e; rfl))).trans hL6
  have hK7 := (hg7.block D (Array.getElem?_eq_some_iff.1 hK6).1 (fun e => hDB (by cases e; rfl))).trans hK6
  have hrow7 := hown'.kept hg7 (own_ne hown' hv6 (fun cur e => by cases e))
  have hb7 := hb6.grown hg7 hb6.size (fun k e => by cases e; exact h0B)
  have hk7 : KeepsWalks W w7 := (hk5.trans (KeepsWalks.of_grownBy hg6' (fun j o e ho => by have := own_walk M5.row j o e ho; cases o <;> first | rfl | (simp [Obj.isCells] at this)))).trans (by rw [← hw7]; exact KeepsWalks.setCell _ _ _)
  clear hw7
  refine ⟨_, _, run_endRound none hL7, rfl, ⟨_, ⟨(World.putObj_heap_other hBl).trans hv7, ?_, World.putObj_heap_same (Array.getElem?_eq_some_iff.1 hL7).1, (World.putObj_heap_other hDl).trans hK7, hb7.grown (putObj_grown _ _ _) hb7.size (fun k e => by cases e; exact h0l)⟩⟩, hk7.trans (KeepsWalks.putObj _ hL7 rfl)⟩
  have := hrow7.kept (putObj_grown w7 l (.loop { { apRec fn sv Bs D (rfA Tryd.f57.body) (rfB Tryd.f57.body) .ready none with state := .busy } with state := if (none : Option Code).isNone then .ready else .done, pending := none })) (own_ne hrow7 hL7 (fun cur e => by cases e))
  simpa [List.flatMap_append] using this
set_option maxRecDepth 100000 in
set_option maxHeartbeats 2000000 in
theorem appendSeq_in (F : Fence) (n : Nat) (h57 : F.fn 57) (h47 : F.fn 47) (hro : F.round = none) (hn : 2 ≤ n) (Bm b : Nat) (M : List (ByteArray × It)) (w : World) (hBm : Bm < w.heap.size) (hm : w.cell? ⟨Bm, 0, none⟩ = some (.map (some b))) (hmap : MapAt Value.string itV w b M) (hM : M.length ≤ 1000000000) :
    CallsIn F n Tryd.prog 57 #[.slice none 0 0, seqV Bm] w fun e w' => ∃ (v : Value) (xs : List It), e = .returned v ∧ xs.Perm (M.map (·.2)) ∧ w'.ownsRow w.heap.size 24 3 v xs.length (xs.flatMap it3) ∧ Below w.heap.size w w' := by
  have h1 : 1 ≤ n := by omega
  refine callsIn_of_wp_marks Tryd.func57 rfl h57 ?_ hro
  simp only [Tryd.ntmps57, List.size_toArray, List.length_cons, List.length_nil, Nat.reduceAdd, Nat.reduceSub, Array.replicate_succ, Array.replicate_zero, List.push_toArray, List.append_toArray, List.nil_append, List.cons_append]
  gi_wp2
  refine wpIn_rangeFunc ?_
  intro fn hfn
  rw [hro]
  obtain ⟨W0, hW0⟩ : ∃ W0, w.alloc (.cells #[.slice none 0 0] 42) = W0 := ⟨_, rfl⟩
  have hs0 : W0.heap.size = w.heap.size + 1 := by rw [← hW0]; simp
  have hv0 : W0.heap[w.heap.size]? = some (.cells #[.slice none 0 0] 42 (0, 0)) := by rw [← hW0]; exact World.alloc_heap_new w _
  have hb0 : Below w.heap.size w W0 := by rw [← hW0]; exact (Below.refl _ w).alloc (Nat.le_refl _) _
  rw [hW0]
  obtain ⟨W1, hW1⟩ : ∃ W1, (W0.alloc (.deferred (some []))).alloc (.loop (apRec fn (seqV Bm) w.heap.size W0.heap.size (rfA Tryd.f57.body) (rfB Tryd.f57.body) .ready none)) = W1 := ⟨_, rfl⟩
  have hold : ∀ k, k < W0.heap.size → W1.heap[k]? = W0.heap[k]? := fun k hk => by
    rw [← hW1]; exact (Below.heap_alloc _ _ k (by simp; omega)).trans (Below.heap_alloc _ _ k hk)
  have hb1 : Below w.heap.size w W1 := by rw [← hW1]; exact (hb0.alloc hb0.size _).alloc (by have := hb0.size; simp; omega) _
  have hM1 : ApAt w fn (seqV Bm) w.heap.size (W0.heap.size + 1) W0.heap.size (rfA Tryd.f57.body) (rfB Tryd.f57.body) [] W1 :=
    ⟨.slice none 0 0, ⟨(hold w.heap.size (by omega)).trans hv0, World.ownsRow_nil _ _ _ _,
     by rw [← hW1]; have := World.alloc_heap_new (W0.alloc (.deferred (some []))) (.loop (apRec fn (seqV Bm) w.heap.size W0.heap.size (rfA Tryd.f57.body) (rfB Tryd.f57.body) .ready none)); rwa [World.size_alloc] at this,
     by rw [← hW1]; exact (Below.heap_alloc _ _ _ (by simp)).trans (World.alloc_heap_new W0 _), hb1⟩⟩
  have eg : ∀ args w, (callFunc 47 args).run Tryd.prog w = .ok (.enter 47 args) w := enters_of Tryd.func47 (by kernel_rfl) rfl
  have hseq := values_stops F (n - 1) h47 hro (by omega) Bm b M w hBm hm hmap
  refine ⟨W0.heap.size + 1, [{ target := .collected W0.heap.size, args := #[] }], W1, { target := .fn (.func 47) #[.pointer (some ⟨Bm, 0, none⟩)], args := #[.func (.yield (W0.heap.size + 1)) #[] #[]] }, W1, 47,
    #[.func (.yield (W0.heap.size + 1)) #[] #[]] ++ #[.pointer (some ⟨Bm, 0, none⟩)], W1, ?_, ?_, ?_, ?_, fun _ => h1, ?_⟩
  · rw [← hW1]; exact run_enterLoop_outer _ _ _ _ _
  · simp [resolve, go_sem]
  · intro f' hf'; simp [Target.leads] at hf'; subst hf'; exact h47
  · simp [invoke, go_sem, eg]
  · refine (hseq (W0.heap.size + 1) (ApAt w fn (seqV Bm) w.heap.size (W0.heap.size + 1) W0.heap.size (rfA Tryd.f57.body) (rfB Tryd.f57.body)) (fun _ _ => False) W1 hb1 (ap_abides _ _ _ _ _ _ _ _ _ hb1.size) (fun s A B row hs _ _ => hs)
      (fun pre x W hJ hl => by
        obtain ⟨fn', t', a', b', hy, hR⟩ := apYield F (n - 1 - 1) w fn hfn (seqV Bm) w.heap.size (W0.heap.size + 1) W0.heap.size (by omega) (by omega) (by omega) (Nat.le_refl _) (by omega) (i0 := 0) (r0 := _) (r1 := _) (r4 := _) (g := _) (ps := _) rfl M.length hM pre x W hJ hl
        exact ⟨fn', t', a', b', hy, hR.mono fun e W' h => .inl h⟩) hM1).mono ?_
    rintro e W2 ⟨⟨v0, rfl⟩, (⟨xs, hS, v, h2⟩ | ⟨pre, _, hf⟩)⟩
    · have hend := run_endLoop (P := Tryd.prog) h2.L (by simp [apRec])
      obtain ⟨W3, hW3⟩ : ∃ W3, W2.putObj (W0.heap.size + 1) (.loop { apRec fn (seqV Bm) w.heap.size W0.heap.size (rfA Tryd.f57.body) (rfB Tryd.f57.body) .ready none with state := .exhausted }) = W3 := ⟨_, rfl⟩
      rw [hW3] at hend
      have hg3 : W2.grownBy W3 (some (W0.heap.size + 1)) := by rw [← hW3]; exact putObj_grown _ _ _
      have hv3 : W3.heap[w.heap.size]? = some (.cells #[v] 42 (0, 0)) := by rw [← hW3]; exact (World.putObj_heap_other (by omega)).trans h2.bx
      have hK3 : W3.heap[W0.heap.size]? = some (.deferred (some [])) := by rw [← hW3]; exact (World.putObj_heap_other (by omega)).trans h2.K
      have hrow3 := h2.row.kept hg3 (own_ne h2.row h2.L (fun cur e => by cases e))
      have hb3 : Below w.heap.size w W3 := h2.b.grown hg3 h2.b.size (fun k e => by cases e; omega)
      obtain ⟨hc3, hf3⟩ := box_cell hv3
      clear hW3
      refine ⟨none, W3, hend, ?_⟩
      gi_wp2
      rw [← hs0]
      refine ⟨by simp, .inl ⟨_, _, rfl, run_takeDeferred hK3, ?_⟩⟩
      exact ⟨_, results_tmp rfl _ _ _, v, xs, rfl, hS, hrow3.kept (putObj_grown _ _ _) (own_ne hrow3 hK3 (fun cur e => by cases e)), hb3.grown (putObj_grown _ _ _) hb3.size (fun k e => by cases e; omega)⟩
    · exact hf.elim
set_option maxHeartbeats 1000000 in
theorem collect_in (F : Fence) (n : Nat) (h45 : F.fn 45) (h57 : F.fn 57) (h47 : F.fn 47) (hro : F.round = none) (hn : 3 ≤ n) (Bm b : Nat) (M : List (ByteArray × It)) (w : World) (hBm : Bm < w.heap.size) (hm : w.cell? ⟨Bm, 0, none⟩ = some (.map (some b))) (hmap : MapAt Value.string itV w b M) (hM : M.length ≤ 1000000000) :
    CallsIn F n Tryd.prog 45 #[seqV Bm] w fun e w' => ∃ (v : Value) (xs : List It), e = .returned v ∧ xs.Perm (M.map (·.2)) ∧ w'.ownsRow w.heap.size 24 3 v xs.length (xs.flatMap it3) ∧ Below w.heap.size w w' := by
  have h1 : 1 ≤ n := by omega
  refine callsIn_of_wp Tryd.func45 rfl h45 ?_ hro
  simp only [Tryd.ntmps45, List.size_toArray, List.length_cons, List.length_nil, Nat.reduceAdd, Nat.reduceSub, Array.replicate_succ, Array.replicate_zero, List.push_toArray, List.append_toArray, List.nil_append, List.cons_append]
  gi_wp2_with (gi_at_call 57; refine (appendSeq_in F (n - 1) h57 h47 hro (by omega) Bm b M _ hBm hm hmap hM).mono ?_; rintro e w' ⟨v, xs, rfl, hS, hrow, hb⟩)
  go_ret
  exact ⟨v, xs, rfl, hS, hrow, hb⟩
theorem ownsRow_base0 {W : World} {base : Nat} {e : TypeId} {size : Nat} {v : Value} {k : Nat} {xs : List Value} (h : W.ownsRow base e size v k xs) : W.ownsRow 0 e size v k xs := by
  refine ⟨h.1, ?_⟩
  rcases h.2 with hn | ⟨g, cap, cur, hv, hbg, rest⟩
  · exact .inl hn
  · exact .inr ⟨g, cap, cur, hv, Nat.zero_le _, rest⟩
theorem t_collect {bx mb : Nat} {M : List (ByteArray × It)} (hM : M.length ≤ 1000000000) : Tri Tryd.prog 45 #[seqV bx] [mapR Value.string itV mb M, blkR bx [.map (some mb)] 61]
    (PostE (ι := Value × List It) (fun x => x.2.Perm (M.map (·.2))) (fun x => x.1) fun x => [mapR Value.string itV mb M, blkR bx [.map (some mb)] 61, rowR 24 3 x.1 x.2.length (x.2.flatMap it3)]) := by
  intro w own hH hO
  have hm : MapOf Value.string itV w (fun k => own k = 0 + 1) mb M := hH 0 _ rfl
  have hb : BlkAt w (fun k => own k = 1 + 1) bx [.map (some mb)] 61 := hH 1 _ rfl
  refine (callsIn_wide.1 (collect_in Fence.wide 4 trivial trivial trivial rfl (by omega) bx mb M w hb.1.lt (hb.1.at 0 _ rfl) hm.1 hM)).mono ?_
  rintro e w' ⟨v, xs, rfl, hp, hr, hbel⟩
  exact ⟨v, rfl, became_new (R := rowR 24 3 v xs.length (xs.flatMap it3)) hH hO ⟨hbel.os, hbel.tape, hbel.output, hbel.size, fun k hk _ => hbel.block k hk⟩ ⟨ownsRow_base0 hr, fun g hg => (hr.lt g hg).1⟩ ⟨(v, xs), hp, rfl, rfl⟩⟩
end Go.Proofs.YtnijaeipkbpibaaDoor
