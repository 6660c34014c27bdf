import Derived.Test.YtkbghhholjfgfaaPv7
import Derived.Great.FillDense
import Derived.Laws.StructEq
set_option linter.unusedSimpArgs false
namespace Pv
open Go

section
variable {P : Program} {c : Cx} {H : FH}

/-- A row of cells, element by element. -/
structure RowOk (c : Cx) (cells : Array Value) (s : Nat) (xs : List PV) : Prop where
  size : cells.size = xs.length * s
  len : ∀ (i : Nat) x, xs[i]? = some x → x.cells.length = s
  rel : ∀ (i : Nat) x (j : Nat) y v, xs[i]? = some x → x.cells[j]? = some y → cells[i * s + j]? = some v → v.oneCell' = true ∧ Rel c false y v

theorem fill_cons (place : Nat → Option (Nat × Nat)) (cells : Array Value) (i : Nat) (v : Value) (rest : List (Nat × Value)) (off n : Nat) (hp : place i = some (off, n)) (h1 : v.cells.size = n) (h2 : off + n ≤ cells.size) :
    ∃ cells', Instr.fill place cells ((i, v) :: rest) = Instr.fill place cells' rest ∧ cells'.size = cells.size ∧
      ∀ k, cells'[k]? = if off ≤ k ∧ k < off + n then v.cells[k - off]? else cells[k]? := by
  obtain ⟨g1, g2⟩ := Go.Great.foldl_set off v.cells.toList 0 cells
  refine ⟨_, ?_, g1, fun k => ?_⟩
  · simp only [Instr.fill, hp]
    rw [if_neg (by simp [h1]; omega)]
    congr 1
    rw [← Array.foldl_toList, Array.toList_zipIdx]
  · rw [g2 k]
    simp only [Nat.add_zero, Array.length_toList, h1, Array.getElem?_toList]
    by_cases hk : off ≤ k ∧ k < off + n
    · rw [if_pos ⟨hk.1, hk.2, by omega⟩, if_pos hk]
    · rw [if_neg (fun h => hk ⟨h.1, h.2.1⟩), if_neg hk]

theorem set_elem_rel {s : Nat} (hs0 : 0 < s) {cells cells' : Array Value} {xs : List PV} (hok : RowOk c cells s xs) {i : Nat} (hi : i < xs.length) {x : PV} {v : Value} (e1 : v.cells.size = s) (e2 : x.cells.length = s)
    (e3 : ∀ (j : Nat) y u, x.cells[j]? = some y → v.cells[j]? = some u → u.oneCell' = true ∧ Rel c false y u) (hsz : cells'.size = cells.size)
    (hg : ∀ k, cells'[k]? = if i * s ≤ k ∧ k < i * s + s then v.cells[k - i * s]? else cells[k]?) : RowOk c cells' s (xs.set i x) := by
  refine ⟨by rw [hsz, hok.size, List.length_set], fun i' z hz => ?_, fun i' z j y u hz hy hu => ?_⟩
  · rw [List.getElem?_set] at hz
    split at hz
    · simp only [hi, if_true, Option.some.injEq] at hz; subst hz; exact e2
    · exact hok.len i' z hz
  · rw [hg] at hu
    rw [List.getElem?_set] at hz
    by_cases hii : i = i'
    · subst hii
      simp only [hi, if_true, Option.some.injEq] at hz
      subst hz
      have hjl := (List.getElem?_eq_some_iff.1 hy).1
      rw [if_pos (by omega), Nat.add_sub_cancel_left] at hu
      exact e3 j y u hy hu
    · simp only [hii, if_false] at hz
      have hjs : j < s := by
        have := (List.getElem?_eq_some_iff.1 hy).1
        have := hok.len i' z hz
        omega
      rw [if_neg (by
        rintro ⟨a1, a2⟩
        rcases Nat.lt_or_gt_of_ne hii with h7 | h7
        · have : (i + 1) * s ≤ i' * s := Nat.mul_le_mul_right _ h7
          rw [Nat.add_mul] at this; omega
        · have : (i' + 1) * s ≤ i * s := Nat.mul_le_mul_right _ h7
          rw [Nat.add_mul] at this; omega)] at hu
      exact hok.rel i' z j y u hz hy hu

theorem layParts_fill {T : List PV} {a : Act} (hT : RelL c T a.tmps.toList) {s : Nat} (hs0 : 0 < s) : ∀ (parts : List (Nat × Operand)) (xs xs' : List PV) (cells : Array Value), layParts T s parts xs = some xs' → RowOk c cells s xs →
    ∃ cells', Instr.fill (fun i => some (i * s, s)) cells (parts.map fun x => (x.1, a.eval x.2)) = some cells' ∧ RowOk c cells' s xs' ∧ xs'.length = xs.length
  | [], xs, xs', cells, h, hok => by
    simp only [layParts, Option.some.injEq] at h
    subst h
    exact ⟨cells, rfl, hok, rfl⟩
  | (i, o) :: rest, xs, xs', cells, h, hok => by
    simp only [layParts] at h
    split at h
    · rename_i hc
      obtain ⟨e1, e2, e3, e4⟩ := okElem_cells hc.1 (ev_rel hT o)
      have hroom := elem_room (s := s) (n := xs.length) (sz := cells.size) (by rw [hok.size]; exact Nat.le_refl _) hc.2
      obtain ⟨cells1, g1, g2, g3⟩ := fill_cons (fun i => some (i * s, s)) cells i (a.eval o) (rest.map fun x => (x.1, a.eval x.2)) (i * s) s rfl e1 hroom
      obtain ⟨cells', k1, k2, k3⟩ := layParts_fill hT hs0 rest _ xs' cells1 h (set_elem_rel hs0 hok hc.2 e1 e2 e3 g2 g3)
      exact ⟨cells', by rw [List.map_cons, g1, k1], k2, by rw [k3, List.length_set]⟩
    · cases h

theorem mod_get {z : Array Value} {n i j : Nat} (hs : 0 < z.size) (hj : j < z.size) (hlt : i * z.size + j < n) :
    ((Array.range n).map (z[· % z.size]!))[i * z.size + j]? = z[j]? := by
  have hm : (i * z.size + j) % z.size = j := by rw [Nat.add_comm, Nat.mul_comm, Nat.add_mul_mod_self_left, Nat.mod_eq_of_lt hj]
  simp [hlt, hm, hj]

theorem zeros_row {zp : PV} {z : Value} {s : Nat} (hok : okElem zp s = true) (hz : Rel c false zp z) (hs0 : 0 < s) (len : Nat) :
    RowOk c ((Array.range (len * s)).map (z.cells[· % z.cells.size]!)) s (List.replicate len zp) := by
  obtain ⟨e1, e2, e3, e4⟩ := okElem_cells hok hz
  refine ⟨by simp, fun i x hx => ?_, fun i x j y v hx hy hv => ?_⟩
  · rw [List.getElem?_replicate] at hx
    split at hx
    · simp at hx; subst hx; exact e2
    · cases hx
  · rw [List.getElem?_replicate] at hx
    split at hx
    · rename_i hi
      simp at hx; subst hx
      have hjl := (List.getElem?_eq_some_iff.1 hy).1
      have hroom := elem_room (s := s) (n := len) (sz := len * s) (Nat.le_refl _) hi
      subst e1
      rw [mod_get hs0 (by omega) (by omega)] at hv
      exact e3 j y v hy hv
    · cases hx

theorem RowOk.mono {c' : Cx} (hle : c.Le c') {cells : Array Value} {s : Nat} {xs : List PV} (h : RowOk c cells s xs) : RowOk c' cells s xs :=
  ⟨h.size, h.len, fun i x j y v a b d => ⟨(h.rel i x j y v a b d).1, (h.rel i x j y v a b d).2.mono hle⟩⟩

/-- A new row, whole. -/
theorem ok_newRow (hs : Sim c H) {d s : Nat} {xs : List PV} {cells : Array Value} (hok : RowOk c cells s xs) {w' : World} {e : TypeId} (hw : w'.heap = c.w.heap.push (.cells cells e (0, 0)))
    (ho : w'.os = c.w.os) (ht : w'.tape = c.w.tape) (hu : w'.output = c.w.output) {n cap : Nat} (hn : n = xs.length) (hcap : n ≤ cap) (hcs : cap * s ≤ cells.size) :
    OpOk c H (.ok (.value (.slice (some ⟨c.w.heap.size, 0, none⟩) n cap)) w') { v := .bsl d (genOf H d) s 0 n, rd := [d], wr := newBox H d s xs } := by
  obtain ⟨c', h1, h2, h3, h4, h5, h6⟩ := hs.fresh d (genOf H d) genOf_lt hw ho ht hu (s := s) (xs' := xs) (by rw [hok.size]; exact Nat.le_refl _) hok.len hok.rel
  refine ⟨_, .slice (some ⟨c.w.heap.size, 0, none⟩) n cap, c', by rw [h1], .inl rfl, ?_, h5, h6⟩
  refine .bsl _ rfl h3 (Nat.le_refl _) fun _ => .inl ⟨c.w.heap.size, cells, e, (0, 0), cap, h2, ?_, by simp, hcap, by simpa using hcs⟩
  rw [h1, hw]; simp

theorem ok_buildSlice (hs : Sim c H) {T : List PV} {a : Act} (hT : RelL c T a.tmps.toList) {d t len : Nat} {parts : Array (Nat × Operand)} {r : Res} (h : sBuildSlice P H T d t len parts.toList = some r) :
    OpOk c H (((do pure (Next.value (← Instr.buildSlice t len (parts.map fun x => (x.1, a.eval x.2))))) : Sem Next).run P c.w) r := by
  unfold sBuildSlice at h
  split at h
  · rename_i e he
    rcases elemI_inv he with ⟨_, hu⟩ | ⟨n, hn, _⟩
    · split at h
      · rename_i ti ht
        split at h
        · rename_i hc
          obtain ⟨hok, hs0, hbig⟩ := hc
          obtain ⟨inf, z, i1, i2, i3, _, i5⟩ := zero_rel ht hok
          split at h
          · rename_i xs hxs
            simp only [Option.some.injEq] at h
            subst h
            obtain ⟨e1, e2, e3, e4⟩ := okElem_cells hok (i5 c)
            obtain ⟨cells', k1, k2, k3⟩ := layParts_fill hT hs0 parts.toList _ xs _ hxs (zeros_row hok (i5 c) hs0 len)
            simp only [List.length_replicate] at k3
            have := ok_newRow hs (d := d) k2 (w' := c.w.alloc (.cells cells' e)) (e := e) rfl rfl rfl rfl (n := len) (cap := len) k3.symm (Nat.le_refl _) (by rw [k2.size, k3]; exact Nat.le_refl _)
            refine cast ?_ this
            congr 1
            have hbig' : ¬ (2 ^ 24 < len * inf.size) := by rw [i3]; omega
            have hbig2 : ¬ (len * inf.size > 2 ^ 24) := hbig'
            simp only [Instr.buildSlice, Sem.run_bind, run_underlying hu, Result.andThen_ok, run_sizeOf' i1, i3, Sem.run_ite, Array.toList_map]
            rw [if_neg (by rw [i3] at hbig2; exact hbig2)]
            by_cases h0 : len * ti.size = 0
            · have hr : Array.range 0 = #[] := rfl
              simp only [h0, hr, Array.map_empty] at k1
              simp only [h0, if_true, hr, Array.map_empty, Sem.run_pure, Result.andThen_ok, k1]
              rfl
            · simp only [h0, if_false, Sem.run_bind, run_zeroValue' i1 i2, Result.andThen_ok, Sem.run_pure, k1]
              rfl
          · cases h
        · cases h
      · cases h
    · cases hn
  · cases h

end
end Pv
