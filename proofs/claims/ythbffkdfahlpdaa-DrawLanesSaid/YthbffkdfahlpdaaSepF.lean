/- Walks over what is owned apart: maps, slices, what came in. Over any program; no condition. -/
import Derived.Test.YthbffkdfahlpdaaSepE
set_option linter.unusedVariables false
namespace Go.Proofs.Ythbffkdfahlpdaa
open Go.RowKit Go.MapKept

def cellsR (v : Value) (n size : Nat) (xs : List Value) : Res := .of fun w S => Cells w S v n size xs
def strsR (v : Value) (xs : List ByteArray) : Res := .of fun w S => Strs w S v xs
/-- All that was there in w0, as it was. -/
def oldR (w0 : World) : Res := ⟨fun w S => w0.heap.size ≤ w.heap.size ∧ ∀ k, k < w0.heap.size → S k ∧ w.heap[k]? = w0.heap[k]?, fun {w w' S S'} h hz hs => ⟨Nat.le_trans h.1 hz, fun k hk => by
  obtain ⟨h1, h2⟩ := h.2 k hk
  obtain ⟨h3, h4⟩ := hs k (Nat.lt_of_lt_of_le hk h.1) h1
  exact ⟨h3, h4.trans h2⟩⟩⟩
theorem oldR.mod {w0 w : World} {S : Nat → Prop} (h : (oldR w0).p w S) {k : Nat} (hk : k < w0.heap.size) : w.heap[k]? = w0.heap[k]? := (h.2 k hk).2
theorem oldR.cell {w0 w : World} {S : Nat → Prop} (h : (oldR w0).p w S) {a : Addr} {v : Value} (hv : w0.cell? a = some v) : w.cell? a = some v :=
  (World.cell?_of_block (oldR.mod h (World.block_lt_of_cell? w0 a hv))).trans hv
theorem oldR.cells {w0 w : World} {S T : Nat → Prop} (h : (oldR w0).p w S) {v : Value} {n size : Nat} {xs : List Value} (hv : Cells w0 T v n size xs) : Cells w T v n size xs := by
  obtain ⟨a, cap, h1, h2, h3, h4, h5⟩ := hv
  refine ⟨a, cap, h1, h2, h3, h4, h5.imp id ?_⟩
  rintro ⟨g, off, e, hS, hg, hc⟩
  exact ⟨g, off, e, hS, Nat.lt_of_lt_of_le hg h.1, fun j u hj => oldR.cell h (hc j u hj)⟩
theorem oldR.strs {w0 w : World} {S T : Nat → Prop} (h : (oldR w0).p w S) {v : Value} {xs : List ByteArray} (hv : Strs w0 T v xs) : Strs w T v xs := oldR.cells h hv
/-- A law's beginning and end. -/
theorem St.law (w : World) : St (fun k => k < w.heap.size) w [oldR w] w :=
  ⟨fun k => if k < w.heap.size then 1 else 0, Mod.refl _ _, fun k hk _ => hk, fun i R hi => by
    match i, hi with
    | 0, hi => cases hi; exact ⟨Nat.le_refl _, fun k hk => ⟨by simp [hk], rfl⟩⟩⟩
theorem St.lawEnd {B : Nat → Prop} {w0 w : World} {Γ : List Res} (h : St B w0 Γ w) (hi : Γ[0]? = some (oldR w0)) : Below w0.heap.size w0 w := by
  obtain ⟨S, hS⟩ := h.fact hi
  obtain ⟨own, hM, _⟩ := h
  exact ⟨hM.os, hM.tape, hM.output, hM.size, fun k hk => oldR.mod hS hk⟩

section
variable {P : Program} {σ : List (Nat × Value)} {o : Oper}
theorem Sq.fact {K : Cx} {Q : Exit → Act → World → Prop} {Γ : List Res} {ops : Array Oper} {l : List Nat} {i : Nat} {R : Res} {φ : Prop} (hi : Γ[i]? = some R) (hφ : ∀ w S, R.p w S → φ) (h : φ → Sq K ops l Q σ Γ) : Sq K ops l Q σ Γ := fun a w hS hΓ => by
  obtain ⟨S, hR⟩ := hΓ.fact hi
  exact h (hφ w S hR) a w hS hΓ
theorem Ex'.fact {K : Cx} {e : Exit} {Q : Exit → Act → World → Prop} {Γ : List Res} {i : Nat} {R : Res} {φ : Prop} (hi : Γ[i]? = some R) (hφ : ∀ w S, R.p w S → φ) (h : φ → Ex' K e Q σ Γ) : Ex' K e Q σ Γ := fun a w hS hΓ => by
  obtain ⟨S, hR⟩ := hΓ.fact hi
  exact h (hφ w S hR) a w hS hΓ
theorem row_slice {e size n : Nat} {v : Value} {xs : List Value} (w : World) (S : Nat → Prop) (h : (rowR e size v n xs).p w S) : ∃ a cap, v = .slice a n cap ∧ n ≤ cap ∧ cap ≤ maxLen := Row.len h
theorem row_addr {e size n cap : Nat} {a : Option Addr} {xs : List Value} (hn : 0 < n) (w : World) (S : Nat → Prop) (h : (rowR e size (.slice a n cap) n xs).p w S) : ∃ b, a = some ⟨b, 0, none⟩ := by
  have h : Row w S e size (.slice a n cap) n xs := h
  rcases h.shape with ⟨e1, e2, _⟩ | ⟨b, cap', cur, e1, _⟩
  · omega
  · injection e1 with e1; exact ⟨b, e1⟩
theorem cells_slice {size n : Nat} {v : Value} {xs : List Value} (w : World) (S : Nat → Prop) (h : (cellsR v n size xs).p w S) : ∃ a cap, v = .slice a n cap ∧ n ≤ cap ∧ cap ≤ maxLen := by
  have h : Cells w S v n size xs := h
  obtain ⟨a, cap, h1, h2, h3, _⟩ := h; exact ⟨a, cap, h1, h2, h3⟩
theorem cells_addr {size n cap : Nat} {a : Option Addr} {xs : List Value} (hn : 0 < n) (w : World) (S : Nat → Prop) (h : (cellsR (.slice a n cap) n size xs).p w S) : ∃ b off, a = some ⟨b, off, none⟩ := by
  have h : Cells w S (.slice a n cap) n size xs := h
  obtain ⟨g, off, e, _⟩ := h.addr hn; exact ⟨g, off, e⟩
theorem row_cells {e size n : Nat} {v : Value} {xs : List Value} (w : World) (S : Nat → Prop) (h : (rowR e size v n xs).p w S) : (cellsR v n size xs).p w S := Row.cells h
theorem row_strs {e : Nat} {v : Value} {xs : List ByteArray} {n : Nat} (w : World) (S : Nat → Prop) (h : (rowR e 1 v n (xs.map Value.string)).p w S) : (strsR v xs).p w S := Row.strs h

/-! ### maps -/
section
variable {κ α : Type} [DecidableEq κ] {gk : κ → Value} {fv : α → Value} {b : Nat} {l : List (κ × α)} {t k e : TypeId} {dst : Option Tmp} {ty : TypeId} {pos : String} {after : Array Edge} {g : Option (Nat × Bool)} {m x y : Operand}
theorem o_lookup {c : Bool} {z : Value} (key : κ) (hm : ev σ m = some (.map (some b))) (hx : ev σ x = some (gk key)) (K : KeyT P k gk) (ht : P.underlying t = some (.map k e)) (hz : ∀ w, (zeroValue e).run P w = .ok z w) :
    Opr P σ ⟨dst, .lookup t m x c, ty, pos, after, g⟩ [mapR gk fv b l] (Same [mapR gk fv b l] (if c then .tuple #[((lk l key).map fv).getD z, .bool (lk l key).isSome] else ((lk l key).map fv).getD z)) := by
  intro ρ hρ w own hH hO
  have hb : MapOf gk fv w (fun k => own k = 0 + 1) b l := hH 0 _ rfl
  exact .inl ⟨_, w, .inl (by simp [execOp, hρ m _ hm, hρ x _ hx, hb.1.lookup K ht (hz w) key c, Result.andThen]), became_same hH ⟨rfl, rfl⟩⟩
theorem became_grown {R R' : Res} {own : Nat → Nat} {w w' : World} {v : Value} {b : Nat} (hS : own b = 1) (hg : w.grownBy w' (some b)) (hR : R'.p w' (fun k => own k = 1)) (Post : Value → List Res → Prop) (hp : Post v [R']) : Became Post own w v w' :=
  ⟨[R'], own, hp, fun i Q hi => (by match i, hi with | 0, hi => cases hi; exact hR), (Mod.refl _ _).grown hg fun k hk _ => (by injection hk with hk; subst hk; simp [hS]), fun _ _ q => q⟩
theorem o_mapUpdate (key : κ) (u : α) (hm : ev σ m = some (.map (some b))) (hx : ev σ x = some (gk key)) (hy : ev σ y = some (fv u)) (K : KeyT P k gk) (ht : P.underlying t = some (.map k e)) :
    Opr P σ ⟨dst, .mapUpdate t m x y, ty, pos, after, g⟩ [mapR gk fv b l] (Same [mapR gk fv b (put l key u)] undef) := by
  intro ρ hρ w own hH hO
  have hb : MapOf gk fv w (fun k => own k = 0 + 1) b l := hH 0 _ rfl
  obtain ⟨w', hrun, r1, r2⟩ := hb.1.store K ht key u
  exact .inl ⟨undef, w', .inr ⟨by simp [execOp, hρ m _ hm, hρ x _ hx, hρ y _ hy, hrun, Result.andThen], rfl⟩, became_grown (R := mapR gk fv b l) (R' := mapR gk fv b (put l key u)) hb.2 r2 ⟨r1, hb.2⟩ _ ⟨rfl, rfl⟩⟩
theorem o_delete {kt : TypeId} (key : κ) (hm : ev σ m = some (.map (some b))) (hx : ev σ x = some (gk key)) (K : KeyT P k gk) (ht : P.underlying t = some (.map k e)) :
    Opr P σ ⟨dst, .call { callee := .builtin .delete, args := #[m, x], argTypes := #[t, kt] }, ty, pos, after, g⟩ [mapR gk fv b l] (Same [mapR gk fv b (del l key)] (.tuple #[])) := by
  intro ρ hρ w own hH hO
  have hb : MapOf gk fv w (fun k => own k = 0 + 1) b l := hH 0 _ rfl
  obtain ⟨w', hrun, r1, r2⟩ := hb.1.drop K ht key kt ty
  exact .inl ⟨_, w', .inl (by simp [execOp, resolve, invoke, builtin, hρ m _ hm, hρ x _ hx, hrun, Result.andThen]), became_grown (R := mapR gk fv b l) (R' := mapR gk fv b (del l key)) hb.2 r2 ⟨r1, hb.2⟩ _ ⟨rfl, rfl⟩⟩
omit [DecidableEq κ] in
theorem o_lenMap (hm : ev σ m = some (.map (some b))) (ht : P.underlying t = some (.map k e)) :
    Opr P σ ⟨dst, .call { callee := .builtin .len, args := #[m], argTypes := #[t] }, ty, pos, after, g⟩ [mapR gk fv b l] (Same [mapR gk fv b l] (.int .i64 l.length)) := by
  intro ρ hρ w own hH hO
  have hb : MapOf gk fv w (fun k => own k = 0 + 1) b l := hH 0 _ rfl
  exact .inl ⟨_, w, .inl (by simp [execOp, resolve, invoke, builtin, hρ m _ hm, hb.1.len ht ty, Result.andThen]; rfl), became_same hH ⟨rfl, rfl⟩⟩
omit [DecidableEq κ] in
theorem o_clearMap (hm : ev σ m = some (.map (some b))) (ht : P.underlying t = some (.map k e)) :
    Opr P σ ⟨dst, .call { callee := .builtin .clear, args := #[m], argTypes := #[t] }, ty, pos, after, g⟩ [mapR gk fv b l] (Same [mapR gk fv b []] (.tuple #[])) := by
  intro ρ hρ w own hH hO
  have hb : MapOf gk fv w (fun k => own k = 0 + 1) b l := hH 0 _ rfl
  obtain ⟨w', hrun, r1, r2⟩ := hb.1.cleared ht ty
  exact .inl ⟨_, w', .inl (by simp [execOp, resolve, invoke, builtin, hρ m _ hm, hrun, Result.andThen]), became_grown (R := mapR gk fv b l) (R' := mapR gk fv b []) hb.2 r2 ⟨r1, hb.2⟩ _ ⟨rfl, rfl⟩⟩
end

/-! ### slices -/
section
variable {t e size bytes n : Nat} {v : Value} {xs : List Value} {dst : Option Tmp} {ty : TypeId} {pos : String} {after : Array Edge} {g : Option (Nat × Bool)} {s x : Operand}
/-- The elements of a literal, laid down. -/
theorem o_buildSlice {parts : Array (Nat × Operand)} {len : Nat} (cells : List Value) {E : TypeId} (h : ∀ w, (Instr.buildSlice t len (parts.map fun p => (p.1, evD σ p.2))).run P w = .ok (.slice (some ⟨w.heap.size, 0, none⟩) len len) (w.alloc (.cells cells.toArray E)))
    (hk : known σ ⟨dst, .buildSlice t len parts, ty, pos, after, g⟩ = true) :
    Opr P σ ⟨dst, .buildSlice t len parts, ty, pos, after, g⟩ [] (fun v l' => ∃ b, v = .slice (some ⟨b, 0, none⟩) len len ∧ l' = [blkR b cells E]) := by
  intro ρ hρ w own hH hO
  have hr := known_run (o := ⟨dst, .buildSlice t len parts, ty, pos, after, g⟩) hρ hk rfl
  refine .inl ⟨_, _, .inl ?_, became_new hH hO ((Mod.refl _ _).alloc _) (R := blkR w.heap.size cells E) ⟨Blk.new w cells E, Nat.le_refl _⟩ ⟨_, rfl, rfl⟩⟩
  rw [hr]
  simp only [execOp]
  have := h w
  simp only [Sem.run_bind, this, Result.andThen_ok, Sem.run_pure]
/-- 'append(s, x..)': x was just laid down. -/
theorem o_append {B m : Nat} {news : List Value} {T : TypeId} (hs : ev σ s = some v) (hx : ev σ x = some (.slice (some ⟨B, 0, none⟩) m m)) (E : ElemT P t e size bytes) (hsz : 0 < size) (hl : news.length = m * size) (h1 : news.all Value.oneCell' = true) (h63 : n + m ≤ maxLen) (hby : (n + m) * bytes ≤ 140737488355328) :
    Opr P σ ⟨dst, .call { callee := .builtin .append, args := #[s, x], argTypes := #[t, t] }, ty, pos, after, g⟩ [rowR e size v n xs, blkR B news T] (fun v' l' => l' = [rowR e size v' (n + m) (xs ++ news), blkR B news T]) := by
  intro ρ hρ w own hH hO
  have hr : Row w (fun k => own k = 0 + 1) e size v n xs := hH 0 _ rfl
  have hb : BlkAt w (fun k => own k = 1 + 1) B news T := hH 1 _ rfl
  obtain ⟨v', w', hrun, h2, h3⟩ := runRowAppend (P := P) E hsz ty hr (ad := ⟨B, 0, none⟩) (c := m) hl (fun j u hj => by rw [addr_add]; exact hb.1.at j u hj) (fun u hu => List.all_eq_true.1 h1 u hu) h63 hby
  refine .inl ⟨v', w', .inl ?_, [rowR e size v' (n + m) (xs ++ news), blkR B news T], paint own w 1, rfl, fun i R hi => ?_, h3.mono fun k _ q => (by simp at q; omega), fun k hk q => by rwa [paint_old own w _ hk] at q⟩
  · simp [execOp, resolve, invoke, builtin, hρ s _ hs, hρ x _ hx, hrun, Result.andThen]
  · match i, hi with
    | 0, hi =>
      cases hi
      refine Row.mono h2 fun k hk q => ?_
      rcases Nat.lt_or_ge k w.heap.size with hk' | hk'
      · exact (paint_old own w _ hk').trans (q.resolve_right (by omega))
      · exact paint_new own w _ hk'
    | 1, hi =>
      cases hi
      exact BlkAt.move hb h3.size fun k hk q => ⟨(paint_old own w _ hk).trans q, h3.block k hk fun q2 => (by omega)⟩
/-- 'append(s, y...)': y is read. -/
theorem o_appendAll {R : Res} {m : Nat} {news : List Value} {u : Value} (hs : ev σ s = some v) (hx : ev σ x = some u) (hR : ∀ w S, R.p w S → ∃ S', Cells w S' u m size news) (E : ElemT P t e size bytes) (hsz : 0 < size) (h1 : ∀ c ∈ news, c.oneCell' = true) (h63 : n + m ≤ maxLen) (hby : (n + m) * bytes ≤ 140737488355328) :
    Opr P σ ⟨dst, .call { callee := .builtin .append, args := #[s, x], argTypes := #[t, t] }, ty, pos, after, g⟩ [rowR e size v n xs, R] (fun v' l' => l' = [rowR e size v' (n + m) (xs ++ news), R]) := by
  intro ρ hρ w own hH hO
  have hr : Row w (fun k => own k = 0 + 1) e size v n xs := hH 0 _ rfl
  have hb : R.p w (fun k => own k = 1 + 1) := hH 1 _ rfl
  obtain ⟨S', hy⟩ := hR _ _ hb
  obtain ⟨ad, cap, rfl, hc1, hc2, hl, hc⟩ := hy.shape
  have hgo : ∃ v' w', (Builtin.append_ #[t, t] ty #[v, .slice ad m cap]).run P w = .ok v' w' ∧ Row w' (fun k => own k = 0 + 1 ∨ k = w.heap.size) e size v' (n + m) (xs ++ news) ∧ Mod (fun k => own k = 0 + 1) w w' := by
    rcases Nat.eq_zero_or_pos m with hm | hm
    · subst hm
      have hn0 : news = [] := List.eq_nil_of_length_eq_zero (by rw [hl, Nat.zero_mul])
      subst hn0
      obtain ⟨i, z, hi, hz, hsi, hbb, hcz⟩ := E.info
      obtain ⟨a0, c0, e0, hn, _⟩ := hr.len
      subst e0
      refine ⟨.slice a0 n c0, w, ?_, (by simpa using hr.mono fun k _ q => .inl q), Mod.refl _ _⟩
      cases ad <;> cases a0 <;> simp [Builtin.append_, run_underlying E.under, sizeOf, typeInfo, hi, Builtin.lenOf, Builtin.firstCells, hn, storeCells, loadCells, loadCellsFrom]
    · obtain ⟨g', off, rfl, _, _, hcell⟩ := hc hm
      exact runRowAppend (P := P) E hsz ty hr (ad := ⟨g', off, none⟩) (c := cap) hl (fun j u hj => by rw [addr_add']; exact hcell j u hj) h1 h63 hby
  obtain ⟨v', w', hrun, h2, h3⟩ := hgo
  refine .inl ⟨v', w', .inl ?_, [rowR e size v' (n + m) (xs ++ news), R], paint own w 1, rfl, fun i R' hi => ?_, h3.mono fun k _ q => (by simp at q; omega), fun k hk q => by rwa [paint_old own w _ hk] at q⟩
  · simp [execOp, resolve, invoke, builtin, hρ s _ hs, hρ x _ hx, hrun, Result.andThen]
  · match i, hi with
    | 0, hi =>
      cases hi
      refine Row.mono h2 fun k hk q => ?_
      rcases Nat.lt_or_ge k w.heap.size with hk' | hk'
      · exact (paint_old own w _ hk').trans (q.resolve_right (by omega))
      · exact paint_new own w _ hk'
    | 1, hi =>
      cases hi
      exact Res.mov _ hb h3.size fun k hk q => ⟨(paint_old own w _ hk).trans q, h3.block k hk fun q2 => (by omega)⟩
/-- '&s[i]'. -/
theorem o_indexAddr {ix : Operand} {b off cap i : Nat} {kd : IntKind} (hs : ev σ s = some (.slice (some ⟨b, off, none⟩) n cap)) (hi : ev σ ix = some (.int kd (i : Int))) (hin : i < n) (ht : P.underlying t = some (.slice e)) (hz : sizeT P e size = true) :
    OprV P σ ⟨dst, .indexAddr t s ix, ty, pos, after, g⟩ (.pointer (some ⟨b, off + i * size, none⟩)) := oprV_of fun ρ hρ w => by
  unfold sizeT at hz
  cases hq : P.info? e with
  | none => simp [hq] at hz
  | some q =>
    simp [hq] at hz
    simp [execOp, hρ s _ hs, hρ ix _ hi, Instr.indexAt, asIntOf, run_underlying ht, sizeOf, typeInfo, hq, hz, addr_add', hin, Result.andThen]
/-- A load out of a slice. -/
theorem o_loadC {b off cap i j : Nat} {u : Value} (hx : ev σ x = some (.pointer (some ⟨b, j, none⟩))) (hn : 0 < n) (hj : j = off + i) (ht : scal P t = true) (hu : xs[i]? = some u) :
    Opr P σ ⟨dst, .load t x, ty, pos, after, g⟩ [cellsR (.slice (some ⟨b, off, none⟩) n cap) n size xs] (Same [cellsR (.slice (some ⟨b, off, none⟩) n cap) n size xs] u) := by
  subst hj
  intro ρ hρ w own hH hO
  have hb : Cells w (fun k => own k = 0 + 1) (.slice (some ⟨b, off, none⟩) n cap) n size xs := hH 0 _ rfl
  obtain ⟨g', off', e1, _, _, hc⟩ := hb.addr hn
  cases e1
  exact .inl ⟨u, w, .inl (by simp [execOp, hρ x _ hx, run_load1 ht (hc i u hu), Result.andThen]), became_same hH ⟨rfl, rfl⟩⟩
theorem o_loadRow {b cap i : Nat} {u : Value} {E : TypeId} (hx : ev σ x = some (.pointer (some ⟨b, i, none⟩))) (hn : 0 < n) (ht : scal P t = true) (hu : xs[i]? = some u) :
    Opr P σ ⟨dst, .load t x, ty, pos, after, g⟩ [rowR E size (.slice (some ⟨b, 0, none⟩) n cap) n xs] (Same [rowR E size (.slice (some ⟨b, 0, none⟩) n cap) n xs] u) := by
  intro ρ hρ w own hH hO
  have hb : Row w (fun k => own k = 0 + 1) E size (.slice (some ⟨b, 0, none⟩) n cap) n xs := hH 0 _ rfl
  obtain ⟨g', off', e1, _, _, hc⟩ := hb.cells.addr hn
  cases e1
  have := hc i u hu
  rw [Nat.zero_add] at this
  exact .inl ⟨u, w, .inl (by simp [execOp, hρ x _ hx, run_load1 ht this, Result.andThen]), became_same hH ⟨rfl, rfl⟩⟩
/-- A load out of what came in. -/
theorem o_loadOld {w0 : World} {b j : Nat} {u : Value} (hx : ev σ x = some (.pointer (some ⟨b, j, none⟩))) (ht : scal P t = true) (hu : w0.cell? ⟨b, j, none⟩ = some u) :
    Opr P σ ⟨dst, .load t x, ty, pos, after, g⟩ [oldR w0] (Same [oldR w0] u) := by
  intro ρ hρ w own hH hO
  have hb := hH 0 (oldR w0) rfl
  exact .inl ⟨u, w, .inl (by simp [execOp, hρ x _ hx, run_load1 ht (oldR.cell hb hu), Result.andThen]), became_same hH ⟨rfl, rfl⟩⟩
theorem o_loadOldN {w0 : World} {b j : Nat} (cs : List Value) (hx : ev σ x = some (.pointer (some ⟨b, j, none⟩))) (ht : rowT P t cs.length = true) (hu : w0.rangeAt b j cs) :
    Opr P σ ⟨dst, .load t x, ty, pos, after, g⟩ [oldR w0] (Same [oldR w0] (.agg cs.toArray)) := by
  intro ρ hρ w own hH hO
  have hb := hH 0 (oldR w0) rfl
  exact .inl ⟨_, w, .inl (by simp [execOp, hρ x _ hx, run_loadN (n := 0) ht (fun i v hi => oldR.cell hb (hu i v hi)), Result.andThen]), became_same hH ⟨rfl, rfl⟩⟩
end
end
end Go.Proofs.Ythbffkdfahlpdaa
