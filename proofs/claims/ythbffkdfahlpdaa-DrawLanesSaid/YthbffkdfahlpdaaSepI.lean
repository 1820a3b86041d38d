/- More operations: numbers of other kinds, texts, rows that are empty. -/
import Derived.Test.YthbffkdfahlpdaaSepH
import Derived.Laws.BytesString
import Derived.LoopN
set_option linter.unusedVariables false
namespace Go.Proofs.Ythbffkdfahlpdaa
open Go.RowKit Go.MapKept
/-- A type, if it is there. -/
def isT (P : Program) (t : TypeId) : Bool := (P.underlying t).isSome
theorem wr_i64 {x : Int} (h : -9223372036854775808 ≤ x ∧ x ≤ 9223372036854775807) : IntKind.i64.wrap x = x := IntWalk.i64_in _ h
theorem wr_u64 {x : Int} (h : 0 ≤ x ∧ x ≤ 18446744073709551615) : IntKind.u64.wrap x = x := by
  simp [IntKind.wrap, IntKind.bits, IntKind.signed]; omega
theorem wr_u8 {x : Int} (h : 0 ≤ x ∧ x ≤ 255) : IntKind.u8.wrap x = x := by
  simp [IntKind.wrap, IntKind.bits, IntKind.signed]; omega
section
variable {P : Program} {σ : List (Nat × Value)} {dst : Option Tmp} {ty t d : TypeId} {pos : String} {after : Array Edge} {g : Option (Nat × Bool)} {x y : Operand}
theorem o_convI {k k' : IntKind} {a c : Int} (hx : ev σ x = some (.int k a)) (hs : isT P t = true) (hd : P.underlying d = some (.int k')) (hc : k'.wrap a = c) :
    OprV P σ ⟨dst, .convert t d x, ty, pos, after, g⟩ (.int k' c) := oprV_of fun ρ hρ w => by
  subst hc
  unfold isT at hs
  cases hu : P.underlying t with
  | none => simp [hu] at hs
  | some s => cases s <;> simp [execOp, hρ x _ hx, convert, run_underlying hu, run_underlying hd, Conv.intToInt, Result.andThen]
theorem o_addS {xt yt : TypeId} {a b c : ByteArray} (hx : ev σ x = some (.string a)) (hy : ev σ y = some (.string b)) (hl : a.size + b.size ≤ 9223372036854775807) (hc : a ++ b = c) :
    OprV P σ ⟨dst, .binOp .add xt x y yt, ty, pos, after, g⟩ (.string c) := oprV_of fun ρ hρ w => by
  subst hc
  have : ¬ ((a.size + b.size : Nat) : Int) > IntKind.i64.max := by
    show ¬ _ > (9223372036854775807 : Int); omega
  simp only [execOp, hρ x _ hx, hρ y _ hy, binOp, Op.stringOp, eqGuard, Sem.run_bind, Sem.run_pure, Result.andThen_ok, if_neg this]
  rfl
/-- Bytes, as a text. -/
def strOf (ns : List Int) : ByteArray := ns.foldl (fun r n => r.push (UInt8.ofNat n.toNat)) ByteArray.empty
theorem o_bytesStr {b n cap : Nat} {T e : TypeId} {l : List Value} (ns : List Int) {s : ByteArray} (hx : ev σ x = some (.slice (some ⟨b, 0, none⟩) n cap)) (hs : P.underlying t = some (.slice e)) (he : P.underlying e = some (.int .u8)) (hd : P.underlying d = some .string)
    (hl : l = ns.map (Value.int .u8)) (hn : n = ns.length) (hc : strOf ns = s) :
    Opr P σ ⟨dst, .convert t d x, ty, pos, after, g⟩ [blkR b l T] (Same [blkR b l T] (.string s)) := by
  intro ρ hρ w own hH hO
  subst hc hl hn
  have hb : BlkAt w (fun k => own k = 0 + 1) b (ns.map (Value.int .u8)) T := hH 0 _ rfl
  have hr : (loadCells ⟨b, 0, none⟩ ns.length).run P w = .ok (ns.map (Value.int .u8)).toArray w := by
    have := run_loadCells_list (P := P) w ⟨b, 0, none⟩ (ns.map (Value.int .u8)) (fun j v hv => by
      have hadd : (⟨b, 0, none⟩ : Addr).add j = ⟨b, j, none⟩ := by unfold Addr.add; split <;> simp_all
      rw [hadd]; exact hb.1.at j v hv)
    rwa [List.length_map] at this
  refine .inl ⟨_, w, .inl ?_, became_same hH ⟨rfl, rfl⟩⟩
  simp only [execOp, hρ x _ hx, Sem.run_bind]
  rw [run_convert_bytes_string w t d e _ _ _ hs he hd, run_bytesToString w _ _ _ ns hr]
  rfl
/-- No text at all, as a row. -/
theorem o_lit0 {e size : TypeId} (hu : P.underlying t = some (.slice e)) (hi : sizeT P e size = true) :
    Opr P σ ⟨dst, .buildSlice t 0 #[], ty, pos, after, g⟩ [] (PostE (fun _ => True) (fun b => .slice (some ⟨b, 0, none⟩) 0 0) fun b => [rowR e size (.slice (some ⟨b, 0, none⟩) 0 0) 0 []]) := by
  intro ρ hρ w own hH hO
  unfold sizeT at hi
  cases hq : P.info? e with
  | none => simp [hq] at hi
  | some q =>
    refine .inl ⟨_, _, .inl (by simp [execOp, Instr.buildSlice, run_underlying hu, sizeOf, typeInfo, hq, Instr.fill, newRow, Result.andThen]; rfl), became_new hH hO ((Mod.refl _ _).alloc _) (R := rowR e size (.slice (some ⟨w.heap.size, 0, none⟩) 0 0) 0 []) ⟨⟨by simp, .inr ⟨w.heap.size, 0, #[], rfl, Nat.zero_le _, (by show (w.heap.push _)[w.heap.size]? = some _; simp), Nat.le_refl _, Nat.zero_le _, by simp, by simp⟩⟩, fun g hg => ?_⟩ ⟨w.heap.size, trivial, rfl, rfl⟩⟩
    cases hg; exact Nat.le_refl _
end
section
variable {K : Cx} {Q : Exit → Act → World → Prop} {σ : List (Nat × Value)} {Γ : List Res} {c : Code}
/-- A loop, round by round: n more at most. -/
theorem Cd.unroll (n : Nat) (h : Cd K c (Exit.then (Code.rounds K.P c Q n) Q) σ Γ) : Cd K (.loop c) Q σ Γ := fun a w hS hΓ => wp_loop_rounds (n + 1) (h a w hS hΓ)
theorem Ex'.again {n : Nat} (h : Cd K c (Exit.then (Code.rounds K.P c Q n) Q) σ Γ) : Ex' K .normal (Exit.then (Code.rounds K.P c Q (n + 1)) Q) σ Γ := fun a w hS hΓ => h a w hS hΓ
end
/-- A slice's address. -/
def addrOf : Value → Option Addr
  | .slice a _ _ => a
  | _ => none
theorem Tri.rowA {P : Program} {f : Nat} {args : Array Value} {l L : List Res} {E n : Nat} {xs : List Value} {size : Nat} (h : Tri P f args l (PostE (fun _ => True) id fun v => L ++ [rowR E size v n xs])) :
    Tri P f args l (PostE (ι := Option Addr × Nat) (fun _ => True) (fun y => .slice y.1 n y.2) fun y => L ++ [rowR E size (.slice y.1 n y.2) n xs]) := by
  intro w own hH hO
  refine (h w own hH hO).mono ?_
  rintro e w' ⟨v, rfl, l', own', ⟨x, _, rfl, rfl⟩, h2, h3, h4⟩
  have hR := h2 L.length (rowR E size v n xs) (by simp)
  obtain ⟨a, c, rfl, _, _⟩ := row_slice _ _ hR
  exact ⟨_, rfl, _, own', ⟨(a, c), trivial, rfl, rfl⟩, h2, h3, h4⟩
end Go.Proofs.Ythbffkdfahlpdaa
