/- Sqz, RefA -/
import Derived.Test.YtholinnmjoelkaaGreatDoorM07
import Derived.Test.YtholinnmjoelkaaGreatDoorProg
import Derived.Deep.QuietTactic
import Derived.BigQuiet
set_option linter.unusedVariables false
set_option linter.unusedSimpArgs false
namespace Go.Proofs.YtholinnmjoelkaaGreatDoor
open Go.RowKit Go.MapKept
section
variable {P : Program} {K : Cx} {Q : Exit → Act → World → Prop} {σ : List (Nat × Value)} {Γ : List Res} {ops : Array Oper} {i : Nat} {rest : List Nat} {o : Oper}
theorem Sq.sm (is : List Nat) {r : Value} {l l' : List Res} (h : Opr K.P σ o l (Same l' r)) (ho : ops[i]? = some o) (hK : Sq K ops rest Q (putS o.dst r σ) (updR Γ is l'))
    (hp : pickR Γ is = l := by kernel_rfl) (hB : opOk ops σ K.N i is Γ.length = true := by kernel_rfl) (hl : is.length = l'.length := by rfl) : Sq K ops (i :: rest) Q σ Γ := Sq.same is h hp ho hB hl hK
theorem Sq.vl (is : List Nat) (vs : List Value) (hK : Sq K ops rest Q (putsS ops σ is vs) Γ) (h : ∀ w, runs K.P ops K.N σ is vs w = some (vs.map fun v => .ok (.value v) w) := by (intro w; kernel_rfl)) : Sq K ops (is ++ rest) Q σ Γ := Sq.vals is vs h hK
theorem Sq.d1 {id : Nat} {y : Code} {op2 : Array Oper} (h : Sq K op2 (List.range op2.size) (Exit.then (y.wp K.P Q) Q) σ Γ) : Sq K ops [] (Exit.then ((Code.seq (.region id op2 false) y).wp K.P Q) Q) σ Γ := Sq.done (Ex'.next (Cd.seq (Cd.region rfl h)))
theorem Sq.d3 (h : Ex' K .ret Q σ Γ) : Sq K ops [] (Exit.then (Code.ret.wp K.P Q) Q) σ Γ := Sq.done (Ex'.next (Cd.ret h))
theorem Sq.d4 {y : Code} (h : Cd K y Q σ Γ) : Sq K ops [] (Exit.then (y.wp K.P Q) Q) σ Γ := Sq.done (Ex'.next h)
theorem Cd.s0 {id : Nat} (h : Sq K ops (List.range ops.size) Q σ Γ) : Cd K (.region id ops false) Q σ Γ := Cd.region rfl h
theorem Cd.s1 {id : Nat} {y : Code} (h : Sq K ops (List.range ops.size) (Exit.then (y.wp K.P Q) Q) σ Γ) : Cd K (.seq (.region id ops false) y) Q σ Γ := Cd.seq (Cd.region rfl h)
theorem Cd.cT {c : Operand} {x y : Code} (h : Cd K x Q σ Γ) (hc : ev σ c = some (.bool true) := by kernel_rfl) : Cd K (.cond c x y) Q σ Γ := Cd.condT hc h
theorem Cd.cF {c : Operand} {x y : Code} (h : Cd K y Q σ Γ) (hc : ev σ c = some (.bool false) := by kernel_rfl) : Cd K (.cond c x y) Q σ Γ := Cd.condF hc h
theorem Ex'.a1 {e : Exit} {σ' : List (Nat × Value)} {Γ' : List Res} (is : List Nat) (h : Ex' K e Q σ' Γ') (h1 : σ = σ' := by kernel_rfl) (h2 : nodupB is = true := by rfl) (h3 : (is.all fun i => Nat.blt i Γ.length) = true := by kernel_rfl) (h4 : pickR Γ is = Γ' := by kernel_rfl) : Ex' K e Q σ Γ := Ex'.as is h1 h2 h3 h4 h
theorem Sq.e0 (is : List Nat) {ι : Type} {φ : ι → Prop} {f : ι → Value} {L : ι → List Res} {l : List Res} (h : Opr K.P σ o l (PostE φ f L)) (ho : ops[i]? = some o)
    (hK : ∀ x, φ x → Sq K ops rest Q (putS o.dst (f x) σ) (updR Γ is (L x))) (hp : pickR Γ is = l := by kernel_rfl) (hB : opOk ops σ K.N i is Γ.length = true := by kernel_rfl) (hl : ∀ x, is.length ≤ (L x).length := by (intro _; exact Nat.zero_le _)) : Sq K ops (i :: rest) Q σ Γ := Sq.ex is h hp ho hB hl hK
theorem Sq.e1 (is : List Nat) {ι : Type} {φ : ι → Prop} {f : ι → Value} {L : ι → List Res} {l : List Res} (h : Opr K.P σ o l (PostE φ f L)) (ho : ops[i]? = some o)
    (hK : ∀ x, φ x → Sq K ops rest Q (putS o.dst (f x) σ) (updR Γ is (L x))) (hp : pickR Γ is = l := by kernel_rfl) (hB : opOk ops σ K.N i is Γ.length = true := by kernel_rfl) (hl : ∀ x, is.length ≤ (L x).length := by (intro _; exact Nat.le_of_ble_eq_true (by kernel_rfl))) : Sq K ops (i :: rest) Q σ Γ := Sq.ex is h hp ho hB hl hK
end
section
variable {P : Program} {σ : List (Nat × Value)} {Γ : List Res} {dst : Option Tmp} {ty : TypeId} {pos : String} {after : Array Edge} {g : Option (Nat × Bool)}
theorem o_ld {t : TypeId} {x : Operand} {b i : Nat} {l : List Value} {T : TypeId} {v : Value}
    (hx : ev σ x = some (.pointer (some ⟨b, i, none⟩)) := by kernel_rfl) (ht : scal P t = true := by kernel_rfl) (hv : l[i]? = some v := by kernel_rfl) : Opr P σ ⟨dst, .load t x, ty, pos, after, g⟩ [blkR b l T] (Same [blkR b l T] v) := o_load hx ht hv
theorem o_lN {t : TypeId} {x : Operand} {b i : Nat} {l : List Value} {T : TypeId} (cs : List Value)
    (hx : ev σ x = some (.pointer (some ⟨b, i, none⟩)) := by kernel_rfl) (ht : rowT P t cs.length = true := by kernel_rfl) (hv : (l.drop i).take cs.length = cs := by kernel_rfl) : Opr P σ ⟨dst, .load t x, ty, pos, after, g⟩ [blkR b l T] (Same [blkR b l T] (.agg cs.toArray)) := o_loadN cs hx ht hv
theorem o_st {t : TypeId} {x y : Operand} {b i : Nat} {l : List Value} {T : TypeId} {v : Value}
    (hx : ev σ x = some (.pointer (some ⟨b, i, none⟩)) := by kernel_rfl) (hy : ev σ y = some v := by kernel_rfl) (hs : sizeT P t v.cells.size = true := by kernel_rfl) (hi : Nat.ble (i + v.cells.size) l.length = true := by kernel_rfl) (h1 : v.cells.toList.all Value.oneCell' = true := by kernel_rfl) :
    Opr P σ ⟨dst, .store t x y, ty, pos, after, g⟩ [blkR b l T] (Same [blkR b (setL l i v.cells.toList) T] undef) := o_store hx hy hs hi h1
theorem o_cl {f : Nat} {xs : Array Operand} {tys : Array TypeId} {args : List Value} {l : List Res} {Post : Value → List Res → Prop}
    (hf : ∀ args w, (callFunc f args).run P w = .ok (.enter f args) w) (h : Tri P f args.toArray l Post) (hx : evs σ xs.toList = some args := by kernel_rfl) :
    Opr P σ ⟨dst, .call { callee := .value (.func f), args := xs, argTypes := tys }, ty, pos, after, g⟩ l Post := o_call hx hf h
theorem RVs.tm {t : Nat} {v : Value} {rs : List ResultVar} {vs : List Value} (k : RVs P σ Γ rs vs) (h : lkS σ t = some v := by kernel_rfl) : RVs P σ Γ (.tmp t :: rs) (v :: vs) := RVs.tmp h k
theorem RVs.cN {t T b i : Nat} {l : List Value} {E : TypeId} (cs : List Value) {rs : List ResultVar} {vs : List Value} (r : Nat) (k : RVs P σ Γ rs vs) (h : lkS σ t = some (.pointer (some ⟨b, i, none⟩)) := by kernel_rfl) (hr : Γ[r]? = some (blkR b l E) := by kernel_rfl) (ht : rowT P T cs.length = true := by kernel_rfl) (hv : (l.drop i).take cs.length = cs := by kernel_rfl) :
    RVs P σ Γ (.cell t T :: rs) (.agg cs.toArray :: vs) := RVs.cellN cs r h hr ht hv k
theorem Tri.en {f N : Nat} {fn : Func} {c : Code} {args : List Value} {l : List Res} {Post : Value → List Res → Prop} (hf : P.funcs[f]? = some fn)
    (h : ∀ B w0, Cd ⟨P, N, B, w0⟩ c (bodyPost P fn (Post' B w0 Post)) (argS 0 args) l) (hb : fn.body = some c := by rfl) (hN : fn.ntmps = N := by rfl) (ha : Nat.ble args.length N = true := by rfl) : Tri P f args.toArray l Post := Tri.enter hf hb hN ha h
end
section
variable {P : Program} {ops : Array Oper} {σ : List (Nat × Value)} {p : Plan} {i : Nat} {o : Oper}
theorem ob_r {l l' : Gh → List Res} {v : Gh → Value} (h : ∀ g, Opr P (p.slots σ g i) o (l g) (Same (l' g) (v g))) (hB : ∀ g, (p.fr i, wants ops (p.slots σ g i) o, p.pre g i, p.post g i, p.V i g) = (false, some true, l g, l' g, v g) := by (intro g; kernel_rfl)) : p.ob P ops σ i o := ob_s h hB
theorem ob_w {v : Gh → Value} (h : ∀ g, OprV P (p.slots σ g i) o (v g)) (hB : ∀ g, (p.fr i, wants ops (p.slots σ g i) o, p.pre g i, p.post g i, p.V i g) = (false, some true, [], [], v g) := by (intro g; kernel_rfl)) : p.ob P ops σ i o := ob_v h hB
theorem ob_k (h : ∀ g w, obRun p P ops σ g i o w = some (.ok (.value (p.V i g)) w) := by (intro g w; kernel_rfl)) : p.ob P ops σ i o := ob_val h
end
theorem St.pk {B : Nat → Prop} {w0 w : World} {Γ Γ' : List Res} (h : St B w0 Γ w) (is : List Nat) (h2 : nodupB is = true := by kernel_rfl) (h3 : (is.all fun i => Nat.blt i Γ.length) = true := by kernel_rfl) (h4 : pickR Γ is = Γ' := by kernel_rfl) : St B w0 Γ' w := h.pickB is h2 h3 h4
theorem St.cv {B : Nat → Prop} {w0 w : World} {Γ : List Res} (h : St B w0 Γ w) (i : Nat) {R R' : Res} (hR : ∀ w S, R.p w S → R'.p w S) (hi : Γ[i]? = some R := by kernel_rfl) : St B w0 (Γ.set i R') w := h.conv i hi hR
end Go.Proofs.YtholinnmjoelkaaGreatDoor
namespace Go.Proofs.YtholinnmjoelkaaGreatDoor
open Go.RowKit Go.MapKept
theorem sl_str : ElemT Tryz.prog 31 9 1 16 := elemT (z := .string ⟨#[]⟩) Tryz.underlying31 (by kernel_rfl) rfl
theorem take_mem {α : Type} {xs : List α} {k : Nat} {x : α} (h : k < xs.length) : x ∈ xs.take (k + 1) ↔ x ∈ xs.take k ∨ x = xs[k] := by
  rw [List.take_succ_eq_append_getElem h, List.mem_append, List.mem_singleton]
set_option maxHeartbeats 400000 in
theorem ref03_Has (v : Value) (xs : List ByteArray) (key : ByteArray) (w : World) (S : Nat → Prop) (h : Strs w S v xs) :
    Calls Tryz.prog 18 #[v, .string key] w fun e w' => e = .returned (.bool (decide (key ∈ xs))) ∧ w = w' := by
  obtain ⟨a, cap, rfl, hc1, hc2, _, hc⟩ := h.shape
  unfold maxLen at hc2
  go_enter Tryz.func18, Tryz.ntmps18
  go_wp2
  go_loop [5] (fun i => ∃ k : Nat, k ≤ xs.length ∧ i = .int .i64 k ∧ key ∉ xs.take k) (fun i => xs.length - (intOf i).toNat)
  case atStart => exact ⟨0, by omega, rfl, by simp⟩
  case round =>
    obtain ⟨k, hk, rfl, hno⟩ := hrel
    have HN := hid hno
    clear hno
    by_cases hlt : k < xs.length
    · obtain ⟨g, off, rfl, _, _, hcell⟩ := hc (by omega)
      have hx := hcell k (.string xs[k]) (by simp [hlt])
      clear hcell hc
      by_cases he : xs[k] = key
      · have hb := str_t he
        have HE := hid he
        clear he
        go_wp2
        go_ret
        exact ⟨ret_bool (by have : key ∈ xs := HE.out ▸ List.getElem_mem hlt
                            simp [this]), rfl⟩
      · have hb := str_f he
        have HE := hid he
        clear he
        go_wp2
        go_round
        case rel => exact ⟨k + 1, by omega, by go_num, fun hm => ((take_mem hlt).1 hm).elim HN.out fun e => HE.out e.symm⟩
        case measure => simp [intOf]; omega
    · clear hc
      go_wp2
      go_ret
      exact ⟨ret_bool (by have := HN.out
                          rw [List.take_of_length_le (by omega)] at this
                          simp [this]), rfl⟩
def rm (xs : List ByteArray) (key : ByteArray) : List ByteArray := xs.filter (· ≠ key)
theorem rm_append (a b : List ByteArray) (key : ByteArray) : rm (a ++ b) key = rm a key ++ rm b key := List.filter_append ..
theorem rm_same (key : ByteArray) : rm [key] key = [] := by simp [rm]
theorem rm_le (xs : List ByteArray) (key : ByteArray) : (rm xs key).length ≤ xs.length := List.length_filter_le _ _
theorem mem_rm {xs : List ByteArray} {key x : ByteArray} : x ∈ rm xs key ↔ x ∈ xs ∧ x ≠ key := by simp [rm]
def fr (xs : List ByteArray) (key : ByteArray) : List ByteArray := key :: rm xs key
theorem fr_le (xs : List ByteArray) (key : ByteArray) : (fr xs key).length ≤ xs.length + 1 := by have := rm_le xs key; simp [fr]; omega
theorem ones (xs : List ByteArray) : ∀ u ∈ xs.map Value.string, u.oneCell' = true := by
  intro u hu; obtain ⟨x, _, rfl⟩ := List.mem_map.1 hu; rfl
end Go.Proofs.YtholinnmjoelkaaGreatDoor
