/- Package heap: a heap as a thing in memory. -/
import Derived.Test.YtnijaeipkbpibaaDoorSepJ
import Derived.Test.YtnijaeipkbpibaaDoorHeapPureB
import Derived.Test.YtnijaeipkbpibaaDoorRefA
set_option linter.unusedVariables false
namespace Go.Proofs.YtnijaeipkbpibaaDoor
open Go.RowKit Go.MapKept

/-- A proposition, as a thing that has no blocks. -/
def factR (φ : Prop) : Res := ⟨fun _ _ => φ, fun h _ _ => h⟩
theorem Cd.re {K : Cx} {c : Code} {Q : Exit → Act → World → Prop} {σ : List (Nat × Value)} {Γ : List Res} (d : Nat) {v v' : Value} (hv : lkS σ d = some v) (e : v = v') (h : Cd K c Q ((d, v') :: σ) Γ) : Cd K c Q σ Γ :=
  Cd.sub (fun k u q => by
    unfold lkS at q
    cases hb : Nat.beq d k with
    | true =>
      have := Nat.eq_of_beq_eq_true hb
      subst this
      rw [hb] at q; simp at q; subst q; rw [hv, e]
    | false => rw [hb] at q; exact q) h
/-- A row: nil, or in a block. -/
theorem Tri.rowCases {P : Program} {f : Nat} {args : Array Value} {E size n : Nat} {v : Value} {xs : List Value} {l : List Res} {Post : Value → List Res → Prop}
    (h1 : v = .slice none 0 0 → n = 0 → xs = [] → Tri P f args (rowR E size v n xs :: l) Post) (h2 : ∀ b cap, v = .slice (some ⟨b, 0, none⟩) n cap → n ≤ cap → cap ≤ maxLen → Tri P f args (rowR E size v n xs :: l) Post) : Tri P f args (rowR E size v n xs :: l) Post := by
  intro w own hH hO
  have hr : Row w (fun k => own k = 0 + 1) E size v n xs := hH 0 _ rfl
  rcases hr.shape with ⟨e1, e2, e3⟩ | ⟨g, cap, cur, e1, _, _, hn, hc, _⟩
  · exact h1 e1 e2 e3 w own hH hO
  · exact h2 g cap e1 hn hc w own hH hO
theorem recs_one {α : Type} {f : α → List Value} (h : ∀ x, (f x).all Value.oneCell' = true) (l : List α) : ∀ c ∈ l.flatMap f, c.oneCell' = true := by
  intro c hc
  obtain ⟨x, _, hx⟩ := List.mem_flatMap.1 hc
  exact List.all_eq_true.1 (h x) c hx
/-- The first of a row, or none. -/
def htop {κ : Type} (z : KR κ) (S : List (KR κ)) : KR κ := S.headD z
theorem hrem_top {κ : Type} [DecidableEq κ] {z : KR κ} {S : List (KR κ)} (hn : (S.map (·.1)).Nodup) (h0 : 0 < S.length) : hrem S (htop z S).1 = S.tail := by
  cases S with
  | nil => simp at h0
  | cons a S =>
    simp only [List.map_cons, List.nodup_cons] at hn
    show hrem (a :: S) a.1 = S
    unfold hrem
    rw [List.filter_cons_of_neg (by simp), List.filter_eq_self]
    intro y hy
    simp only [decide_eq_true_eq]
    intro e; exact hn.1 (e ▸ List.mem_map.2 ⟨y, hy, rfl⟩)
theorem hrem_none {κ : Type} [DecidableEq κ] {S : List (KR κ)} {k : κ} (h : lk S k = none) : hrem S k = S := by
  unfold hrem
  rw [List.filter_eq_self]
  intro y hy
  simp only [decide_eq_true_eq]
  intro e; exact lk_none.1 h (e ▸ List.mem_map.2 ⟨y, hy, rfl⟩)
theorem o_eqRank {σ : List (Nat × Value)} {dst : Option Tmp} {ty yt : TypeId} {pos : String} {after : Array Edge} {g : Option (Nat × Bool)} {x y : Operand} (a0 b0 : Int) (a1 b1 : Int) (hx : ev σ x = some (.agg #[iV a0, iV a1])) (hy : ev σ y = some (.agg #[iV b0, iV b1])) :
    OprV Tryd.prog σ ⟨dst, .binOp .eql 68 x y yt, ty, pos, after, g⟩ (.bool (decide (a0 = b0 ∧ a1 = b1))) := oprV_of fun ρ hρ w => by
  have u3 := Tryd.underlying3
  have a3_ := Tryd.isAgg3
  have z3_ := Tryd.sizeOf3
  have hS : Tryd.prog.underlying 68 = some (.struct (Tryd.prog.fieldsOf 68)) := by kernel_rfl
  have hp : Tryd.prog.stoodInHeld 68 = false := by kernel_rfl
  simp only [execOp, hρ x _ hx, hρ y _ hy, Sem.run_bind, run_eqGuard_agg (P := Tryd.prog) w .eql 68 _ _ _ _ (by kernel_rfl), Result.andThen_ok]
  rw [run_eql_struct, show (10000 : Nat) = 9999 + 1 from rfl, run_equalIn_agg w 9999 68 _ _ hS hp]
  simp only [Program.fieldsOf, Tryd.underlying68]
  go_simp
  by_cases h0 : a0 = b0 <;> by_cases h1 : a1 = b1 <;> simp [h0, h1]
theorem o_eqRank_ne {σ : List (Nat × Value)} {dst : Option Tmp} {ty yt : TypeId} {pos : String} {after : Array Edge} {g : Option (Nat × Bool)} {x y : Operand} (a0 b0 : Int) (a1 b1 : Int) (hx : ev σ x = some (.agg #[iV a0, iV a1])) (hy : ev σ y = some (.agg #[iV b0, iV b1])) :
    OprV Tryd.prog σ ⟨dst, .binOp .neq 68 x y yt, ty, pos, after, g⟩ (.bool (decide (¬ (a0 = b0 ∧ a1 = b1)))) := oprV_of fun ρ hρ w => by
  have u3 := Tryd.underlying3
  have a3_ := Tryd.isAgg3
  have z3_ := Tryd.sizeOf3
  have hS : Tryd.prog.underlying 68 = some (.struct (Tryd.prog.fieldsOf 68)) := by kernel_rfl
  have hp : Tryd.prog.stoodInHeld 68 = false := by kernel_rfl
  simp only [execOp, hρ x _ hx, hρ y _ hy, Sem.run_bind, run_eqGuard_agg (P := Tryd.prog) w .neq 68 _ _ _ _ (by kernel_rfl), Result.andThen_ok]
  rw [run_neq_struct, show (10000 : Nat) = 9999 + 1 from rfl, run_equalIn_agg w 9999 68 _ _ hS hp]
  simp only [Program.fieldsOf, Tryd.underlying68]
  go_simp
  by_cases h0 : a0 = b0 <;> by_cases h1 : a1 = b1 <;> simp [h0, h1]
abbrev hzS : HI ByteArray := ⟨⟨#[]⟩, 0, 0, 0⟩
abbrev hcS (x : HI ByteArray) : List Value := [Value.string x.key, iV x.one, iV x.two, iV x.came]
theorem sl_itemS : ElemT Tryd.prog 90 95 4 40 := elemT (z := .agg #[sV ⟨#[]⟩, iV 0, iV 0, iV 0]) Tryd.underlying90 (by kernel_rfl) rfl
/-- What a heap is made of. -/
def hpLS (b : Nat) (S : List (KR ByteArray)) (n : Nat) (x : Value × Nat × List (HI ByteArray) × List (ByteArray × Int) × Int) : List Res :=
  [factR (HpS hzS S x.2.2.1 x.2.2.2.1 x.2.2.2.2 n), blkR b [x.1, .map (some x.2.1), iV x.2.2.2.2] 92, mapR Value.string (Value.int .i64) x.2.1 x.2.2.2.1, rowR 95 4 x.1 x.2.2.1.length (x.2.2.1.flatMap hcS)]
/-- A heap of the row S; n bounds how many there are and how often they were set. -/
def hpS (b : Nat) (S : List (KR ByteArray)) (n : Nat) : Res := compR (hpLS b S n)
theorem hpS.up {b : Nat} {S : List (KR ByteArray)} {n n' : Nat} (h : n ≤ n') (w : World) (T : Nat → Prop) (q : (hpS b S n).p w T) : (hpS b S n').p w T := by
  obtain ⟨x, own, h1, h2⟩ := q
  refine ⟨x, own, h1, fun i R hi => ?_⟩
  match i, hi with
  | 0, hi => cases hi; exact HpS.up (h2 0 _ rfl) h
  | 1, hi => cases hi; exact h2 1 _ rfl
  | 2, hi => cases hi; exact h2 2 _ rfl
  | 3, hi => cases hi; exact h2 3 _ rfl
theorem hpS.le {b : Nat} {S : List (KR ByteArray)} {n : Nat} (w : World) (T : Nat → Prop) (q : (hpS b S n).p w T) : (S.map (·.1)).Nodup ∧ S.length ≤ n := by
  obtain ⟨x, own, h1, h2⟩ := q
  have h : HpS hzS S x.2.2.1 x.2.2.2.1 x.2.2.2.2 n := h2 0 _ rfl
  exact ⟨h.nodup, by rw [h.len]; exact h.ln⟩
theorem hpS.srt {b : Nat} {S : List (KR ByteArray)} {n : Nat} (w : World) (T : Nat → Prop) (q : (hpS b S n).p w T) : (S.map (·.1)).Nodup ∧ S.length ≤ n ∧ HSorted S := by
  obtain ⟨x, own, h1, h2⟩ := q
  have h : HpS hzS S x.2.2.1 x.2.2.2.1 x.2.2.2.2 n := h2 0 _ rfl
  exact ⟨h.nodup, by rw [h.len]; exact h.ln, h.sorted⟩
theorem Cd.openS {K : Cx} {c : Code} {Q : Exit → Act → World → Prop} {σ : List (Nat × Value)} {b : Nat} {S : List (KR ByteArray)} {n : Nat}
    (h : ∀ v mb l mp came, HpS hzS S l mp came n → Cd K c Q σ [blkR b [v, .map (some mb), iV came] 92, mapR Value.string (Value.int .i64) mb mp, rowR 95 4 v l.length (l.flatMap hcS)]) : Cd K c Q σ [hpS b S n] := fun a w hA hΓ => by
  obtain ⟨⟨v, mb, l, mp, came⟩, hx⟩ := hΓ.open 0 rfl
  obtain ⟨T, hf⟩ := hx.fact (i := 1) rfl
  exact h v mb l mp came hf a w hA (hx.pickB [2, 3, 4] (by kernel_rfl) (by kernel_rfl) rfl)
theorem St.hpS {B : Nat → Prop} {w0 w : World} {b : Nat} {S : List (KR ByteArray)} {n : Nat} {v : Value} {mb : Nat} {l : List (HI ByteArray)} {mp : List (ByteArray × Int)} {came : Int} {Δ : List Res}
    (h : St B w0 (blkR b [v, .map (some mb), iV came] 92 :: mapR Value.string (Value.int .i64) mb mp :: rowR 95 4 v l.length (l.flatMap hcS) :: Δ) w) (hS : HpS hzS S l mp came n) : St B w0 (hpS b S n :: Δ) w := by
  obtain ⟨own, hM, hO, hH⟩ := h
  refine ⟨fun k => if own k = 0 then 0 else if own k ≤ 3 then 1 else own k - 2, hM, fun k hk q => hO k hk fun e => by simp [e] at q, fun i R hi => ?_⟩
  match i, hi with
  | 0, hi =>
    cases hi
    refine ⟨(v, mb, l, mp, came), fun k => if own k = 0 then 0 else if own k ≤ 3 then own k + 1 else 0, fun k hk q => ?_, fun j R hj => ?_⟩
    · dsimp only at q ⊢
      split at q
      · exact absurd rfl q
      · split at q
        · rename_i e1 e2; rw [if_neg e1, if_pos e2]
        · exact absurd rfl q
    · match j, hj with
      | 0, hj => cases hj; exact hS
      | 1, hj => cases hj; exact Res.mov _ (hH 0 _ rfl) (Nat.le_refl _) fun k hk q => ⟨by simp [q], rfl⟩
      | 2, hj => cases hj; exact Res.mov _ (hH 1 _ rfl) (Nat.le_refl _) fun k hk q => ⟨by simp [q], rfl⟩
      | 3, hj => cases hj; exact Res.mov _ (hH 2 _ rfl) (Nat.le_refl _) fun k hk q => ⟨by simp [q], rfl⟩
  | i + 1, hi => exact Res.mov _ (hH (i + 3) R (by simpa using hi)) (Nat.le_refl _) fun k hk q => ⟨by dsimp only; rw [if_neg (by omega), if_neg (by omega)]; omega, rfl⟩
end Go.Proofs.YtnijaeipkbpibaaDoor
