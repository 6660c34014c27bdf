import Derived.Test.YtkbghhholjfgfaaPv5
namespace Pv
open Go

/-- One operation carried out: what it leaves fits what the executor says. -/
def OpOk (c : Cx) (H : FH) (run : Result Next) (r : Res) : Prop :=
  ∃ nx v c', run = .ok nx c'.w ∧ (nx = .value v ∨ (nx = .skip ∧ v = undef)) ∧ Rel c' false r.v v ∧ Sim c' (upd H r.wr) ∧ Ext c H c' (upd H r.wr)

section
variable {P : Program} {c : Cx} {H : FH}

theorem OpOk.pure (hs : Sim c H) {run : Result Next} {r : Res} {v : Value} (h : run = .ok (.value v) c.w) (hr : Rel c false r.v v) (hw : r.wr = []) : OpOk c H run r :=
  ⟨_, v, c, h, .inl rfl, hr, by rw [hw]; exact hs, by rw [hw]; exact .refl c H⟩

theorem tyI_inv {t : TypeId} {ti : TI} (h : tyI P t = some ti) : ∃ i d, P.info? t = some i ∧ P.underlying t = some d ∧
    ti.agg = isAggD d ∧ ti.size = i.size ∧ ti.bytes = i.bytes ∧ ti.zero = (i.zero.map ofConst).getD .any := by
  unfold tyI at h
  split at h
  · rename_i i d h1 h2
    simp only [Option.some.injEq] at h
    subst h
    exact ⟨i, d, h1, h2, rfl, rfl, rfl, rfl⟩
  · cases h

theorem cellsOf_info {t : TypeId} {i : TypeInfo} (h : P.info? t = some i) : P.cellsOf t = i.size := by simp [Program.cellsOf, h]

theorem run_sizeOf' {t : TypeId} {i : TypeInfo} (h : P.info? t = some i) (w : World) : (Go.sizeOf t).run P w = Result.ok i.size w := by simp [Go.sizeOf, typeInfo, h]
theorem run_typeInfo' {t : TypeId} {i : TypeInfo} (h : P.info? t = some i) (w : World) : (typeInfo t).run P w = .ok i w := by simp [typeInfo, h]
theorem run_zeroValue' {t : TypeId} {i : TypeInfo} {z : Value} (h : P.info? t = some i) (hz : i.zero = some z) (w : World) : (zeroValue t).run P w = .ok z w := by simp [zeroValue, typeInfo, h, hz]

theorem run_isAgg' {t : TypeId} {d : TypeDesc} (h : P.underlying t = some d) (w : World) :
    (isAgg t).run P w = Result.ok (isAggD d) w := by
  unfold isAgg
  rw [Sem.run_bind, run_underlying h w]
  cases d <;> rfl

theorem fldI_inv {t : TypeId} {f off : Nat} {ft : TypeId} (h : fldI P t f = some (off, ft)) : ∃ fs x, P.underlying t = some (.struct fs) ∧ fs[f]? = some x ∧ x.offset = off ∧ x.type = ft ∧ P.cellsOf ft ≠ 0 := by
  unfold fldI at h
  split at h
  · rename_i fs h1
    cases hx : fs[f]? with
    | none => simp [hx] at h
    | some x =>
      simp only [hx, Option.bind_some] at h
      split at h
      · cases h
      · rename_i hne
        simp only [Option.some.injEq, Prod.mk.injEq] at h
        exact ⟨fs, x, h1, hx, h.1, h.2, by rw [← h.2]; exact hne⟩
  · cases h

theorem cellsOf_ne {t : TypeId} (h : P.cellsOf t ≠ 0) : ∃ i, P.info? t = some i ∧ i.size ≠ 0 := by
  unfold Program.cellsOf at h
  cases hi : P.info? t with
  | none => simp [hi] at h
  | some i => exact ⟨i, rfl, by simpa [hi] using h⟩

theorem Rel.ptr_inv {cl : Bool} {b g s i o : Nat} {v : Value} (hs : Sim c H) (h : Rel c cl (.ptr b g s i o) v) (hc : cur H b g = true) : ∃ k, c.β b = some k ∧ v = .pointer (some ⟨k, i * s + o, none⟩) := by
  cases h with
  | ptr cur h1c hcur hle hv =>
    rw [hs.gam b] at hcur
    unfold Pv.cur at hc
    cases hx : H b with
    | none => simp [hx] at hc
    | some x =>
      simp only [hx, Option.map_some, Option.some.injEq] at hcur
      simp only [hx, beq_iff_eq] at hc
      exact hv (by omega)

theorem Rel.bsl_inv {cl : Bool} {b g s i n : Nat} {v : Value} (hs : Sim c H) (h : Rel c cl (.bsl b g s i n) v) (hc : cur H b g = true) :
    (∃ k cells e fr cap, c.β b = some k ∧ c.w.heap[k]? = some (.cells cells e fr) ∧ v = .slice (some ⟨k, i * s, none⟩) n cap ∧ n ≤ cap ∧ (i + cap) * s ≤ cells.size) ∨ (n = 0 ∧ ∃ a, v = .slice a 0 0) := by
  cases h with
  | bsl cur h1c hcur hle hv =>
    rw [hs.gam b] at hcur
    unfold Pv.cur at hc
    cases hx : H b with
    | none => simp [hx] at hc
    | some x =>
      simp only [hx, Option.map_some, Option.some.injEq] at hcur
      simp only [hx, beq_iff_eq] at hc
      exact hv (by omega)

theorem Rel.ptr_mk (hs : Sim c H) {b g s i o k : Nat} (hc : cur H b g = true) (hk : c.β b = some k) : Rel c false (.ptr b g s i o) (.pointer (some ⟨k, i * s + o, none⟩)) := by
  unfold Pv.cur at hc
  cases hx : H b with
  | none => simp [hx] at hc
  | some x =>
    simp only [hx, beq_iff_eq] at hc
    exact .ptr g rfl (by rw [hs.gam b, hx]; simp [hc]) (Nat.le_refl _) fun _ => ⟨k, hk, rfl⟩

theorem Rel.bsl_mk (hs : Sim c H) {b g s i n : Nat} {v : Value} (hc : cur H b g = true)
    (hv : (∃ k cells e fr cap, c.β b = some k ∧ c.w.heap[k]? = some (.cells cells e fr) ∧ v = .slice (some ⟨k, i * s, none⟩) n cap ∧ n ≤ cap ∧ (i + cap) * s ≤ cells.size) ∨ (n = 0 ∧ ∃ a, v = .slice a 0 0)) :
    Rel c false (.bsl b g s i n) v := by
  unfold Pv.cur at hc
  cases hx : H b with
  | none => simp [hx] at hc
  | some x =>
    simp only [hx, beq_iff_eq] at hc
    exact .bsl g (by rcases hv with ⟨_, _, _, _, _, _, _, rfl, _⟩ | ⟨_, _, rfl⟩ <;> rfl) (by rw [hs.gam b, hx]; simp [hc]) (Nat.le_refl _) fun _ => hv

theorem ok_fieldAddr (hs : Sim c H) {t f : Nat} {x : PV} {v : Value} (hx : Rel c false x v) {r : Res} (h : sFieldAddr P H t x f = some r) :
    OpOk c H (((do pure (Next.value (← Instr.fieldAt t v f))) : Sem Next).run P c.w) r := by
  unfold sFieldAddr at h
  split at h
  · rename_i off ft b g s i p hf
    obtain ⟨fs, fl, h1, h2, h3, h4, h5⟩ := fldI_inv hf
    obtain ⟨inf, h6, h7⟩ := cellsOf_ne h5
    split at h
    · rename_i hc
      simp only [Option.some.injEq] at h
      subst h
      obtain ⟨k, hk, rfl⟩ := hx.ptr_inv hs hc
      refine .pure hs (v := .pointer (some ⟨k, i * s + (p + off), none⟩)) ?_ (Rel.ptr_mk hs hc hk) rfl
      subst h4
      simp [Instr.fieldAt, run_underlying h1, h2, Instr.sureAddr, fieldPlace, run_sizeOf' h6, h7, Addr.add_lit, h3, Nat.add_assoc]
    · cases h
  · rename_i off ft s xs i p hf
    obtain ⟨fs, fl, h1, h2, h3, h4, h5⟩ := fldI_inv hf
    obtain ⟨inf, h6, h7⟩ := cellsOf_ne h5
    simp only [Option.some.injEq] at h
    subst h
    cases hx with
    | ept _ _ k o cells e fr hA hh hsz hss h1' h2' =>
      refine .pure hs (v := .pointer (some ⟨k, o + i * s + (p + off), none⟩)) ?_ (.ept i (p + off) k o cells e fr hA hh hsz hss h1' h2') rfl
      subst h4
      simp [Instr.fieldAt, run_underlying h1, h2, Instr.sureAddr, fieldPlace, run_sizeOf' h6, h7, Addr.add_lit, h3, Nat.add_assoc]
  · cases h

/-- A load out of a row: of an element that is known. -/
theorem run_loadE {t : TypeId} {ti : TI} (ht : tyI P t = some ti) {k B : Nat} {cells : Array Value} {e : TypeId} {fr : Nat × Nat} (hh : c.w.heap[k]? = some (.cells cells e fr)) {x : PV} {cl : Bool}
    (hsz : B + x.cells.length ≤ cells.size) (hr : ∀ (j : Nat) y v, x.cells[j]? = some y → cells[B + j]? = some v → Rel c cl y v) {p : Nat} {r : PV} (h : loadE ti.agg ti.size x p = some r) :
    ∃ v, (loadVar t ⟨k, B + p, none⟩).run P c.w = .ok v c.w ∧ Rel c cl r v := by
  obtain ⟨i, d, h1, h2, h3, h4, _⟩ := tyI_inv ht
  unfold loadE at h
  cases hagg : ti.agg with
  | true =>
    simp only [hagg, if_true] at h
    split at h
    · rename_i hle
      simp only [Option.some.injEq] at h
      subst h
      have hl := run_loadCells_list (P := P) c.w ⟨k, B + p, none⟩ ((cells.toList.drop (B + p)).take ti.size) (fun j v hv => by
        rw [Addr.add_lit, cell_of_row c.w k _ cells e fr hh]
        rw [List.getElem?_take] at hv
        split at hv
        · rw [List.getElem?_drop] at hv
          simpa using hv
        · cases hv)
      have hlen : ((cells.toList.drop (B + p)).take ti.size).length = ti.size := by simp; omega
      rw [hlen] at hl
      refine ⟨.agg ((cells.toList.drop (B + p)).take ti.size).toArray, ?_, .agg (by simp; omega) fun j y v hy hv => ?_⟩
      · have ha : (isAgg t).run P c.w = .ok true c.w := by rw [run_isAgg' h2, ← h3, hagg]
        simp [loadVar, ha, run_sizeOf' h1, ← h4, hl]
      · simp only [List.getElem?_take] at hy
        simp only [List.getElem?_toArray, List.getElem?_take] at hv
        split at hy
        · rename_i hj
          rw [if_pos hj, List.getElem?_drop] at hv
          rw [List.getElem?_drop] at hy
          exact hr (p + j) y v hy (by rw [← Nat.add_assoc]; simpa using hv)
        · cases hy
    · cases h
  | false =>
    simp only [hagg, Bool.false_eq_true, if_false] at h
    have hlt := (List.getElem?_eq_some_iff.1 h).1
    have hb : B + p < cells.size := by omega
    refine ⟨cells[B + p], ?_, hr p r _ h (by simp [hb])⟩
    have ha : (isAgg t).run P c.w = .ok false c.w := by rw [run_isAgg' h2, ← h3, hagg]
    simp [loadVar, ha, cell_of_row c.w k _ cells e fr hh, hb]

theorem boxArr_inv {b g s : Nat} {x : Box} {xs : List PV} (h : boxArr H b g s = some (x, xs)) : H b = some x ∧ x.gen = g ∧ x.body = .arr s xs := by
  unfold boxArr at h
  split at h
  · rename_i y hy
    split at h
    · rename_i s' ys hb
      split at h
      · rename_i hgs
        simp only [Option.some.injEq, Prod.mk.injEq] at h
        obtain ⟨rfl, rfl⟩ := h
        exact ⟨hy, hgs.1, by rw [hb, hgs.2]⟩
      · cases h
    · cases h
  · cases h

theorem cur_of {b g : Nat} {x : Box} (h : H b = some x) (hg : x.gen = g) : cur H b g = true := by simp [cur, h, hg]

theorem row_of (hs : Sim c H) {b s : Nat} {x : Box} {xs : List PV} (h : H b = some x) (hb : x.body = .arr s xs) {k : Nat} (hk : c.β b = some k) : RowRel c x.own s xs k := by
  have := hs.box b x h
  simp only [BoxRel, hb] at this
  rcases this with ⟨k', h1, h2⟩ | ⟨_, h2⟩
  · rw [h1] at hk; cases hk; exact h2
  · rw [h2] at hk; cases hk

theorem elem_room {s : Nat} {n sz i : Nat} (h : n * s ≤ sz) (hi : i < n) : i * s + s ≤ sz := by
  have : (i + 1) * s ≤ n * s := Nat.mul_le_mul_right _ hi
  rw [Nat.add_mul] at this
  omega

theorem ok_load (hs : Sim c H) {t : Nat} {x : PV} {v : Value} (hx : Rel c false x v) {r : Res} (h : sLoad P H t x = some r) :
    OpOk c H (((do pure (Next.value (← Instr.loadAt t v))) : Sem Next).run P c.w) r := by
  unfold sLoad at h
  split at h
  · rename_i ti b g s i p ht
    split at h
    · rename_i y xs hb
      obtain ⟨g1, g2, g3⟩ := boxArr_inv hb
      split at h
      · rename_i e he
        cases hl : loadE ti.agg ti.size e p with
        | none => simp [hl] at h
        | some q =>
          simp only [hl, Option.map_some, Option.some.injEq] at h
          subst h
          obtain ⟨k, hk, rfl⟩ := hx.ptr_inv hs (cur_of g1 g2)
          obtain ⟨cells, et, fr, f1, f2, f3, f4, f5⟩ := (row_of hs g1 g3 hk).ex
          have hlen := f4 i e he
          have hroom := elem_room f3 (List.getElem?_eq_some_iff.1 he).1
          obtain ⟨u, hu, hrel⟩ := run_loadE (P := P) ht f1 (x := e) (B := i * s) (cl := false) (by omega) (fun j z w a b => (f5 i e j z w he a b).2) hl
          exact .pure hs (v := u) (by simp [Instr.loadAt, Instr.sureAddr, hu]) hrel rfl
      · cases h
    · cases h
  · rename_i ti s xs i p ht
    split at h
    · rename_i e he
      cases hl : loadE ti.agg ti.size e p with
      | none => simp [hl] at h
      | some q =>
        simp only [hl, Option.map_some, Option.some.injEq] at h
        subst h
        cases hx with
        | ept _ _ k o cells et fr hA hh hsz hss h1' h2' =>
          have hlen := hss i e he
          have hroom := elem_room (s := s) (n := xs.length) (sz := xs.length * s) (Nat.le_refl _) (List.getElem?_eq_some_iff.1 he).1
          obtain ⟨u, hu, hrel⟩ := run_loadE (P := P) ht hh (x := e) (B := o + i * s) (cl := true) (by omega) (fun j z w a b => h2' i e j z w he a b) hl
          exact .pure hs (v := u) (by simp [Instr.loadAt, Instr.sureAddr, hu]) hrel.open rfl
    · cases h
  · cases h

theorem cellB_one {cl : Bool} {p : PV} {v : Value} (h : Rel c cl p v) (hb : p.cellB = true) : v.oneCell' = true := by
  cases h <;> simp_all [PV.cellB, Value.oneCell']

/-- A value's cells, known and fit for memory. -/
theorem okElem_cells {x : PV} {n : Nat} (hok : okElem x n = true) {v : Value} (h : Rel c false x v) :
    v.cells.size = n ∧ x.cells.length = n ∧ (∀ (j : Nat) y u, x.cells[j]? = some y → v.cells[j]? = some u → u.oneCell' = true ∧ Rel c false y u) ∧ (∀ u ∈ v.cells.toList, u.oneCell' = true) := by
  simp only [okElem, Bool.and_eq_true, beq_iff_eq] at hok
  obtain ⟨h1, h2⟩ := hok
  have hall : ∀ (j : Nat) y, x.cells[j]? = some y → y.cellB = true := fun j y hy => List.all_eq_true.1 h2 y (List.mem_of_getElem? hy)
  have main : v.cells.size = x.cells.length ∧ (∀ (j : Nat) y u, x.cells[j]? = some y → v.cells[j]? = some u → Rel c false y u) := by
    cases h with
    | agg hl hr => exact ⟨hl.symm, hr⟩
    | any => simp [PV.cells, PV.cellB] at h2
    | tup => simp [PV.cells, PV.cellB] at h2
    | ptr | bsl | map =>
      have h1c : v.oneCell' = true := by assumption
      refine ⟨(by cases v <;> first | rfl | (cases h1c)), fun j y u hy hu => ?_⟩
      cases j with
      | zero =>
        have hvc : v.cells = #[v] := by cases v <;> first | rfl | cases h1c
        rw [hvc] at hu
        simp only [PV.cells, List.getElem?_cons_zero, Option.some.injEq] at hy
        simp only [List.getElem?_toArray, List.getElem?_cons_zero, Option.some.injEq] at hu
        subst hy; subst hu
        first | exact .ptr _ (by assumption) (by assumption) (by assumption) (by assumption) | exact .bsl _ (by assumption) (by assumption) (by assumption) (by assumption) | exact .map _ (by assumption) (by assumption) (by assumption) (by assumption)
      | succ j => simp [PV.cells] at hy
    | _ =>
      refine ⟨rfl, fun j y u hy hu => ?_⟩
      cases j with
      | zero =>
        simp only [PV.cells, List.getElem?_cons_zero, Option.some.injEq] at hy
        simp only [Value.cells, List.getElem?_toArray, List.getElem?_cons_zero, Option.some.injEq] at hu
        subst hy; subst hu
        first
          | assumption
          | exact .bool _ | exact .ub _ | exact .int _ _ | exact .str _ | exact .addr _ | exact .nilp | exact .slnil _ _ | exact .nils | exact .nilf | exact .nili | exact .nilm
          | exact .ptr _ (by assumption) (by assumption) (by assumption) (by assumption) | exact .bsl _ (by assumption) (by assumption) (by assumption) (by assumption) | exact .map _ (by assumption) (by assumption) (by assumption) (by assumption)
          | exact .clo (by assumption) (by assumption) (by assumption) (by assumption) | exact .ifc (by assumption)
          | exact .sl _ _ _ _ _ _ (by assumption) (by assumption) (by assumption) (by assumption) (by assumption) (by assumption) (by assumption)
          | exact .ept _ _ _ _ _ _ _ (by assumption) (by assumption) (by assumption) (by assumption) (by assumption) (by assumption)
      | succ j => simp [PV.cells] at hy
  refine ⟨by omega, h1, fun j y u hy hu => ⟨cellB_one (main.2 j y u hy hu) (hall j y hy), main.2 j y u hy hu⟩, fun u hu => ?_⟩
  obtain ⟨j, hj⟩ := List.mem_iff_getElem?.1 hu
  have hj' : v.cells[j]? = some u := by simpa using hj
  have hlt : j < x.cells.length := by
    have := (Array.getElem?_eq_some_iff.1 hj').1
    omega
  exact cellB_one (main.2 j _ u (List.getElem?_eq_getElem hlt) hj') (hall j _ (List.getElem?_eq_getElem hlt))

theorem genOf_lt {b : Nat} : ∀ x, H b = some x → x.gen < genOf H b := fun x hx => by simp [genOf, hx]

/-- A new row for one element. -/
theorem ok_newVar (hs : Sim c H) {d n : Nat} {x : PV} {v : Value} (hok : okElem x n = true) (hx : Rel c false x v) (t : TypeId) :
    OpOk c H (.ok (.value (.pointer (some ⟨c.w.heap.size, 0, none⟩))) (c.w.alloc (.cells v.cells t))) { v := .ptr d (genOf H d) n 0 0, rd := [d], wr := newBox H d n [x] } := by
  obtain ⟨e1, e2, e3, _⟩ := okElem_cells hok hx
  obtain ⟨c', h1, h2, h3, h4, h5, h6⟩ := hs.fresh d (genOf H d) genOf_lt (w' := c.w.alloc (.cells v.cells t)) (cells := v.cells) (e := t) rfl rfl rfl rfl (s := n) (xs' := [x]) (by simp [e1])
    (fun i y hy => by cases i with | zero => simp at hy; subst hy; exact e2 | succ i => simp at hy)
    (fun i y j p u hy hp hu => by
      cases i with
      | zero => simp at hy; subst hy; exact e3 j p u hp (by simpa using hu)
      | succ i => simp at hy)
  refine ⟨_, .pointer (some ⟨c.w.heap.size, 0, none⟩), c', by rw [h1], .inl rfl, ?_, h5, h6⟩
  exact .ptr _ rfl h3 (Nat.le_refl _) fun _ => ⟨_, h2, by simp⟩

theorem ok_box (hs : Sim c H) {d t : Nat} {x : PV} {v : Value} (hx : Rel c false x v) {r : Res} (h : sBox P H d t x = some r) :
    OpOk c H (((do pure (Next.value (← Instr.box t v))) : Sem Next).run P c.w) r := by
  unfold sBox at h
  split at h
  · rename_i ti ht
    split at h
    · rename_i hok
      simp only [Option.some.injEq] at h
      subst h
      have := ok_newVar hs (d := d) hok hx t
      simp only [Instr.box, newVar, newRow, Sem.run_bind, run_newObj, Result.andThen_ok, Sem.run_pure]
      exact this
    · cases h
  · cases h

theorem zero_rel {t : TypeId} {ti : TI} (ht : tyI P t = some ti) (hok : okElem ti.zero ti.size = true) : ∃ i z, P.info? t = some i ∧ i.zero = some z ∧ i.size = ti.size ∧ i.bytes = ti.bytes ∧ ∀ c : Cx, Rel c false ti.zero z := by
  obtain ⟨i, d, h1, h2, h3, h4, h5, h6⟩ := tyI_inv ht
  cases hz : i.zero with
  | none =>
    rw [hz] at h6
    simp only [Option.map_none, Option.getD_none] at h6
    rw [h6] at hok
    simp [okElem, PV.cells, PV.cellB] at hok
  | some z =>
    rw [hz] at h6
    simp only [Option.map_some, Option.getD_some] at h6
    exact ⟨i, z, h1, hz, h4.symm, h5.symm, fun c => by rw [h6]; exact St.ofConst c z⟩

theorem ok_alloc (hs : Sim c H) {d t : Nat} {r : Res} (h : sAlloc P H d t = some r) :
    OpOk c H (((do pure (Next.value (← Instr.alloc t true (.tuple #[])))) : Sem Next).run P c.w) r := by
  unfold sAlloc at h
  split at h
  · rename_i ti ht
    split at h
    · rename_i hok
      simp only [Option.some.injEq] at h
      subst h
      obtain ⟨i, z, h1, h2, _, _, h3⟩ := zero_rel ht hok
      have := ok_newVar hs (d := d) hok (h3 c) t
      simp only [Instr.alloc, newVar, newRow, Sem.run_bind, run_zeroValue' h1 h2, run_newObj, Result.andThen_ok, Sem.run_pure]
      exact this
    · cases h
  · cases h

end
end Pv
