/- Package value: who is gone at a time. -/
import Derived.Test.YtnijaeipkbpibaaDoorValPureC
set_option linter.unusedVariables false
namespace Go.Proofs.YtnijaeipkbpibaaDoor
open Go.RowKit Go.MapKept
variable {M M0 : List Itm} {S S0 : List (KR ByteArray)} {bys bys0 d n nw : Int} {k v : ByteArray}
theorem valPut_len : (valPut M S bys k v d).1.length ≤ M.length + 1 := by
  rw [valPut_1, length_put]
  have h := length_del M k
  rw [valDel_1] at *
  split <;> (rw [h]; split <;> omega)
theorem VX.b1 (h : VX M S bys) : bys ≤ 320 * (M.length : Int) := by
  rw [h.by_]
  have : ∀ (A : List Itm), (∀ y ∈ A, rightC y.2.1 y.2.2.1 y.2.2.2 = 0) → sumB A ≤ 320 * (A.length : Int) := by
    intro A
    induction A with
    | nil => intro _; simp [sumB]
    | cons y A ih =>
      intro hA
      have h1 := ih fun z hz => hA z (List.mem_cons_of_mem _ hz)
      obtain ⟨_, r1, r2, _⟩ := rightC_ok (hA y (List.mem_cons_self ..))
      simp only [sumB, wt, List.length_cons]
      omega
  exact this M fun y hy => (h.ok y hy).2
abbrev zIt : It := (⟨#[]⟩, ⟨#[]⟩, 0)
def dl (M : List Itm) (k : ByteArray) : Int := ((lk M k).getD zIt).2.2
theorem VX.dl (h : VX M S bys) {y : Itm} (hy : y ∈ M) : dl M y.1 = y.2.2.2 := by
  unfold Proofs.YtnijaeipkbpibaaDoor.dl
  rw [lk_of_mem h.nd (show (y.1, y.2) ∈ M from hy)]; rfl
theorem VX.val (h : VX M S bys) {wl : List It} (hp : wl.Perm (M.map (·.2))) {x : It} (hx : x ∈ wl) : (x.1, x) ∈ M := by
  obtain ⟨y, hy, rfl⟩ := List.mem_map.1 (hp.mem_iff.1 hx)
  rw [(h.ok y hy).1]; exact hy
structure GoneI (M0 : List Itm) (nw : Int) (wl : List It) (gm : List (ByteArray × Bool)) (dm : List (ByteArray × Int)) (k : Nat) : Prop where
  all : ∀ x ∈ wl.take k, lk gm x.1 = some (!decide (getOk M0 x.1 nw)) ∧ lk dm x.1 = some (dl M0 x.1)
  it : ∀ x ∈ wl, x.2.2 = dl M0 x.1
theorem GoneI.start {wl : List It} (h : VX M0 S0 bys0) (hp : wl.Perm (M0.map (·.2))) : GoneI M0 nw wl [] [] 0 := ⟨fun x hx => by simp at hx, fun x hx => (h.dl (h.val hp hx)).symm⟩
theorem GoneI.step {wl : List It} {gm : List (ByteArray × Bool)} {dm : List (ByteArray × Int)} {k : Nat} (h : GoneI M0 nw wl gm dm k) (hk : k < wl.length) {b : Bool} (hb : b = !decide (getOk M0 (wl.getD k zIt).1 nw)) :
    GoneI M0 nw wl (put gm (wl.getD k zIt).1 b) (put dm (wl.getD k zIt).1 (wl.getD k zIt).2.2) (k + 1) := by
  refine ⟨fun x hx => ?_, h.it⟩
  have e : wl[k]? = some (wl.getD k zIt) := by rw [List.getD_eq_getElem?_getD, List.getElem?_eq_getElem hk]; rfl
  have hin : wl.getD k zIt ∈ wl := List.mem_of_getElem? e
  by_cases q : x.1 = (wl.getD k zIt).1
  · rw [q, lk_put_same, lk_put_same, hb, h.it _ hin]; exact ⟨rfl, rfl⟩
  · rw [lk_put_other _ _ q, lk_put_other _ _ q]
    rw [List.take_add_one, e] at hx
    rcases List.mem_append.1 hx with r | r
    · exact h.all x r
    · simp at r; rw [r] at q; exact absurd rfl q
theorem GoneI.had {wl : List It} {gm : List (ByteArray × Bool)} {dm : List (ByteArray × Int)} {k : Nat} (h : GoneI M0 nw wl gm dm k) (hk : k < wl.length) (hb : getOk M0 (wl.getD k zIt).1 nw) :
    GoneI M0 nw wl (put gm (wl.getD k zIt).1 false) (put dm (wl.getD k zIt).1 (wl.getD k zIt).2.2) (k + 1) := h.step hk (by rw [decide_eq_true hb]; rfl)
theorem GoneI.not {wl : List It} {gm : List (ByteArray × Bool)} {dm : List (ByteArray × Int)} {k : Nat} (h : GoneI M0 nw wl gm dm k) (hk : k < wl.length) (hb : ¬ getOk M0 (wl.getD k zIt).1 nw) :
    GoneI M0 nw wl (put gm (wl.getD k zIt).1 true) (put dm (wl.getD k zIt).1 (wl.getD k zIt).2.2) (k + 1) := h.step hk (by rw [decide_eq_false hb]; rfl)
instance {n : Int} {y : It} : Decidable (Due n y) := by unfold Due; infer_instance
def GoneF (M0 : List Itm) (nw : Int) (gm : List (ByteArray × Bool)) (dm : List (ByteArray × Int)) : Prop := ∀ y ∈ M0, lk gm y.1 = some (decide (Due nw y.2)) ∧ lk dm y.1 = some y.2.2.2
theorem GoneI.fin {wl : List It} {gm : List (ByteArray × Bool)} {dm : List (ByteArray × Int)} {k : Nat} (h : GoneI M0 nw wl gm dm k) (hk : wl.length ≤ k) (hV : VX M0 S0 bys0) (hp : wl.Perm (M0.map (·.2))) : GoneF M0 nw gm dm := fun y hy => by
  have hin : y.2 ∈ wl := hp.mem_iff.2 (List.mem_map.2 ⟨y, hy, rfl⟩)
  obtain ⟨h1, h2⟩ := h.all y.2 (by rw [List.take_of_length_le hk]; exact hin)
  rw [(hV.ok y hy).1] at h1 h2
  rw [hV.dl hy] at h2
  refine ⟨?_, h2⟩
  rw [h1]
  by_cases q : Due nw y.2
  · rw [decide_eq_true q, decide_eq_false (fun g => (due_get hV hy).1 g q)]; rfl
  · rw [decide_eq_false q, decide_eq_true ((due_get hV hy).2 q)]; rfl
section
variable {gm : List (ByteArray × Bool)} {dm : List (ByteArray × Int)} {r : List Itm × List (KR ByteArray) × Int × List ByteArray}
/-- What goes is gone, has a deadline; deadlines never fall. -/
theorem gone_at (hV : VX M0 S0 bys0) (hF : GoneF M0 nw gm dm) (hX : ExpS M0 S0 nw r) : ∃ T : List (KR ByteArray), r.2.2.2 = T.map (·.1) ∧ T.Pairwise (fun x y => x.2.1 ≤ y.2.1) ∧ ∀ y ∈ T, lk gm y.1 = some true ∧ lk dm y.1 = some y.2.1 ∧ 0 < y.2.1 := by
  obtain ⟨T, t1, t2, t3⟩ := hX.gone
  refine ⟨T, t1, hV.sd.sublist t2, fun y hy => ?_⟩
  obtain ⟨⟨v, hv⟩, h0, _⟩ := hV.en y (t2.subset hy)
  obtain ⟨f1, f2⟩ := hF _ hv
  refine ⟨?_, f2, h0⟩
  rw [f1, decide_eq_true ⟨h0, t3 y hy⟩]
theorem getD_map {α : Type} {T : List (KR ByteArray)} {l : List ByteArray} (e : l = T.map (·.1)) {k : Nat} (hk : k < l.length) : ∃ y, T[k]? = some y ∧ l.getD k ⟨#[]⟩ = y.1 := by
  subst e
  have hk' : k < T.length := by simpa using hk
  refine ⟨T[k], List.getElem?_eq_getElem hk', ?_⟩
  rw [List.getD_eq_getElem?_getD, List.getElem?_eq_getElem hk]; simp
theorem gone_k (hV : VX M0 S0 bys0) (hF : GoneF M0 nw gm dm) (hX : ExpS M0 S0 nw r) {k : Nat} (hk : k < r.2.2.2.length) : (lk gm (r.2.2.2.getD k ⟨#[]⟩)).getD false = true ∧ 0 < (lk dm (r.2.2.2.getD k ⟨#[]⟩)).getD 0 := by
  obtain ⟨T, t1, t2, t3⟩ := gone_at hV hF hX
  obtain ⟨y, y1, y2⟩ := getD_map (α := Nat) t1 hk
  obtain ⟨f1, f2, f3⟩ := t3 y (List.mem_of_getElem? y1)
  rw [y2, f1, f2]; exact ⟨rfl, f3⟩
theorem gone_le (hV : VX M0 S0 bys0) (hF : GoneF M0 nw gm dm) (hX : ExpS M0 S0 nw r) {k : Nat} (hk : k < r.2.2.2.length) (h0 : 0 < k) : (lk dm (r.2.2.2.getD (k - 1) ⟨#[]⟩)).getD 0 ≤ (lk dm (r.2.2.2.getD k ⟨#[]⟩)).getD 0 := by
  obtain ⟨T, t1, t2, t3⟩ := gone_at hV hF hX
  obtain ⟨y, y1, y2⟩ := getD_map (α := Nat) t1 hk
  obtain ⟨z, z1, z2⟩ := getD_map (α := Nat) (k := k - 1) t1 (by omega)
  rw [y2, z2, (t3 y (List.mem_of_getElem? y1)).2.1, (t3 z (List.mem_of_getElem? z1)).2.1]
  obtain ⟨ky, rfl⟩ := List.getElem?_eq_some_iff.1 y1
  obtain ⟨kz, rfl⟩ := List.getElem?_eq_some_iff.1 z1
  exact (List.pairwise_iff_getElem.1 t2) (k - 1) k kz ky (by omega)
theorem left_k (hV : VX M0 S0 bys0) (hF : GoneF M0 nw gm dm) (hX : ExpS M0 S0 nw r) {rl : List It} (hp : rl.Perm (r.1.map (·.2))) {k : Nat} (hk : k < rl.length) : (lk gm (rl.getD k zIt).1).getD false = false := by
  have e : rl[k]? = some (rl.getD k zIt) := by rw [List.getD_eq_getElem?_getD, List.getElem?_eq_getElem hk]; rfl
  have hin := hX.vx.val hp (List.mem_of_getElem? e)
  obtain ⟨h1, h2⟩ := (hX.mem _).1 hin
  rw [(hF _ h1).1, decide_eq_false h2]; rfl
end
end Go.Proofs.YtnijaeipkbpibaaDoor
