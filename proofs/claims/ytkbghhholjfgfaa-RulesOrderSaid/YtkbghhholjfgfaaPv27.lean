import Derived.Test.YtkbghhholjfgfaaPv26
import Derived.JoinedCond
import Derived.ProofKit
set_option linter.unusedSimpArgs false
set_option linter.unusedVariables false
namespace Pv
open Go Go.ChangeShapes Go.RowKit

/-! ### From a contract in plain values to a law -/

def RdAll (P : Program) (ts : List TypeId) (X : Type) (pvs : X → List PV) : Prop :=
  ∀ (H : Type) (enc : TypeId × Value → H) (w : World) (base : Nat) (vs : List Value) (ds : List (DataW H)) (ps : List MemPlace), (∀ (j : Nat) t v, ts[j]? = some t → vs[j]? = some v → Value.okWide P w .any base t v) →
    DataW.TrodAll enc P w 0 (fun _ => true) true ts vs ds ps → ∃ a : X, RelL (rc w) (pvs a) vs

section
variable {P : Program} {t : TypeId} {ts : List TypeId} {X Y : Type} {qs : Y → List PV}

theorem RdAll.nil : RdAll P [] Unit fun _ => [] := by
  intro H enc w base vs ds ps _ h
  obtain ⟨rfl, _, _⟩ := trodAll_nil h
  exact ⟨(), .nil _⟩

theorem RdAll.agg {cs : X → List PV} (hr : Rd P t X cs) (ht : (∃ fs, P.underlying t = some (.struct fs)) ∨ ∃ n e, P.underlying t = some (.array n e)) (h : RdAll P ts Y qs) : RdAll P (t :: ts) (X × Y) fun p => .agg (cs p.1) :: qs p.2 := by
  intro H enc w base vs ds ps hval hA
  obtain ⟨v, vs', d, ds', p, q, rfl, rfl, _, hT, hR⟩ := trodAll_cons hA
  obtain ⟨b, hb⟩ := h H enc w base vs' ds' q (fun j t v h1 h2 => hval (j + 1) t v (by simpa using h1) (by simpa using h2)) hR
  have hv : ∃ cs, v = .agg cs := by
    have := hval 0 t v rfl rfl
    unfold Value.okWide at this
    rcases ht with ⟨fs, ht⟩ | ⟨n, e, ht⟩
    · rw [ht] at this; obtain ⟨cs, h, _⟩ := this; exact ⟨cs, h⟩
    · rw [ht] at this; obtain ⟨cs, h, _⟩ := this; exact ⟨cs, h⟩
  obtain ⟨arr, rfl⟩ := hv
  obtain ⟨fuel, hf⟩ := hT
  obtain ⟨a, ha⟩ := hr H enc w fuel _ _ hf
  refine ⟨(a, b), .cons (.agg (by simpa [Value.cells] using ha.1) fun i x v h1 h2 => (ha.2 i x v h1 (by simpa [Value.cells] using h2)).2.open) hb⟩

theorem RdAll.one {p : X → PV} (hr : Rd P t X fun a => [p a]) (ht : P.underlying t = some .bool ∨ P.underlying t = some .string ∨ (∃ k, P.underlying t = some (.int k)) ∨ ∃ e, P.underlying t = some (.slice e)) (h : RdAll P ts Y qs) :
    RdAll P (t :: ts) (X × Y) fun x => p x.1 :: qs x.2 := by
  intro H enc w base vs ds ps hval hA
  obtain ⟨v, vs', d, ds', p', q, rfl, rfl, _, hT, hR⟩ := trodAll_cons hA
  obtain ⟨b, hb⟩ := h H enc w base vs' ds' q (fun j t v h1 h2 => hval (j + 1) t v (by simpa using h1) (by simpa using h2)) hR
  have hv : v.cells = #[v] := by
    have := hval 0 t v rfl rfl
    cases v with
    | agg cs =>
      exfalso
      unfold Value.okWide at this
      rcases ht with ht | ht | ⟨k, ht⟩ | ⟨e, ht⟩ <;> simp [ht, Cell.okWide, Cell.ok] at this
    | _ => rfl
  obtain ⟨fuel, hf⟩ := hT
  rw [hv] at hf
  obtain ⟨a, ha⟩ := hr H enc w fuel _ _ hf
  exact ⟨(a, b), .cons (ha.2 0 _ v rfl rfl).2.open hb⟩

theorem RdAll.map {pvs : X → List PV} {rvs : Y → List PV} (h : RdAll P ts X pvs) (g : X → Y) (hg : ∀ x, rvs (g x) = pvs x) : RdAll P ts Y rvs := by
  intro H enc w base vs ds ps hval hA
  obtain ⟨a, ha⟩ := h H enc w base vs ds ps hval hA
  exact ⟨g a, by rw [hg]; exact ha⟩
end

theorem trodAll_stays {H : Type} {enc : TypeId × Value → H} {P : Program} (hl : laidOutB P = true) {W W' : World} {sp : Nat → Bool} : ∀ {ts : List TypeId} {vs : List Value} {ds : List (DataW H)} {ps : List MemPlace},
    ts.all (fun t => P.readableRec t && decide (t < P.types.size)) = true → DataW.TrodAll enc P W 0 (fun _ => true) true ts vs ds ps → (∀ p ∈ ps, W.sameAt W' p) → (∀ p ∈ ps, sp p.block = true) → DataW.TrodAll enc P W' 0 sp true ts vs ds ps
  | [], vs, ds, ps, _, h, _, _ => by obtain ⟨rfl, rfl, rfl⟩ := trodAll_nil h; exact trodAll_mk0
  | t :: ts, vs, ds, ps, ht, h, hs, hp => by
    obtain ⟨v, vs', d, ds', p, q, rfl, rfl, rfl, hT, hR⟩ := trodAll_cons h
    simp only [List.all_cons, Bool.and_eq_true, decide_eq_true_eq] at ht
    exact trodAll_cons_mk (WideElems.Trod_stays hl ht.1.1 ht.1.2 hT (fun x hx => hs x (by simp [hx])) (fun x hx => hp x (by simp [hx])))
      (trodAll_stays hl (by simpa using ht.2) hR (fun x hx => hs x (by simp [hx])) (fun x hx => hp x (by simp [hx])))

theorem trodAll_len {H : Type} {enc : TypeId × Value → H} {P : Program} {w : World} {base : Nat} {sp : Nat → Bool} {held : Bool} : ∀ {ts : List TypeId} {vs : List Value} {ds : List (DataW H)} {ps : List MemPlace}, DataW.TrodAll enc P w base sp held ts vs ds ps → ds.length = ts.length
  | [], vs, ds, ps, h => by obtain ⟨rfl, rfl, rfl⟩ := trodAll_nil h; rfl
  | t :: ts, vs, ds, ps, h => by
    obtain ⟨v, vs', d, ds', p, q, rfl, rfl, rfl, hT, hR⟩ := trodAll_cons h
    simp [trodAll_len hR]

/-- A law that holds: what the walk gives, for every argument. -/
theorem law_true {P : Program} {H : Type} {enc : TypeId × Value → H} {f : FuncId} {fn : Func} {s : ChangeSpec} {apart fresh handsOn again : Bool} {tb : TypeId} {X : Type} {pvs : X → List PV}
    (hl : laidOutB P = true) (hts : fn.params.toList.all (fun t => P.readableRec t && decide (t < P.types.size)) = true)
    (hrt : fn.resultTypes = #[tb]) (htb : P.underlying tb = some .bool) (hv : s.vars = [])
    (hs : ∀ ds : List (DataW H), ds.length = fn.params.size → s.fn H ds = { results := [.lit (.bool true)], args := ds })
    (hrd : RdAll P fn.params.toList X pvs) (hpf : ∀ x, PFun P f (pvs x) (.bool true))
    (W : World) (base : Nat) (args : Array Value) (ds gs : List (DataW H)) (before : List MemPlace)
    (hval : ∀ (j : Nat) t v, fn.params[j]? = some t → args[j]? = some v → Value.okWide P W .any base t v)
    (hW : DataW.Whole enc P fn.params.toList s.vars apart W args.toList ds gs before) :
    Calls P f args W fun e W' => ∃ v, e = .returned v ∧ s.post enc P fn apart fresh handsOn again W args v W' := by
  have hlt := hW.lt
  have hW' := hW
  obtain ⟨p, q, hA, hV, rfl, hfz, hnd⟩ := hW
  rw [hv] at hV
  obtain ⟨rfl, rfl⟩ := trodVars_none hV
  obtain ⟨x, hx⟩ := hrd H enc W base args.toList ds p (fun j t v h1 h2 => hval j t v (by simpa using h1) (by simpa using h2)) hA
  have hdl : ds.length = fn.params.size := by
    have := trodAll_len hA; simpa using this
  have hsp := hs ds hdl
  have hsim : Sim (rc W) (find []) := Sim.empty (c := rc W) (fun k => k < W.heap.size) (fun k hk => hk)
  have hcall := (hpf x).2 (rc W) args.toList hsim hx
  refine hcall.mono ?_
  rintro e W' ⟨r, v, c', H', rfl, rfl, rfl, _, hr, hext⟩
  obtain rfl := hr.bool_inv
  have hno : ∀ k, ¬ Owned (rc W) (find []) k := fun k ⟨b, x, hb, _⟩ => by cases hb
  have hbelow : Below W.heap.size W c'.w := ⟨hext.os, hext.tape, hext.output, hext.size, fun k hk => hext.old k hk (hno k)⟩
  refine ⟨_, rfl, ?_⟩
  have hsame : ∀ z ∈ p ++ [], W.sameAt c'.w z := fun z hz => hbelow.same (hlt z hz)
  have hargs : ∀ sp : Nat → Bool, (∀ z ∈ p ++ [], sp z.block = true) → DataW.TrodAll enc P c'.w 0 sp true fn.params.toList args.toList ds p :=
    fun sp hsp => trodAll_stays hl hts hA (fun z hz => hsame z (by simp [hz])) (fun z hz => hsp z (by simp [hz]))
  have hres : ∀ (b : Nat) (sp : Nat → Bool) (hd : Bool), DataW.TrodAll enc P c'.w b sp hd fn.resultTypes.toList ((Value.bool true).resultList fn.resultTypes.size) [.lit (.bool true)] [] := by
    intro b sp hd
    rw [hrt]
    exact trodAll_cons_mk (shut_bool htb true) trodAll_mk0
  have hold : ∀ z ∈ p ++ [], (fun b => decide (b < W.heap.size)) z.block = true := fun z hz => by simpa using hlt z hz
  have hok := ok_one (P := P) (W' := c'.w) (f := fn) (v := .bool true) hrt rfl (okWide_bool_mk htb true)
  refine ⟨ds, [], p ++ [], [], p, [], hW', ?_, ?_, ?_, ?_, fun _ => ?_⟩
  · simp only [List.append_nil, hsp]; exact hres _ _ _
  · simp only [List.append_nil, hsp]; exact hargs _ hold
  · simp only [List.append_nil, hsp, hv]; rfl
  · refine hbelow.frame _
  · refine ⟨hok, [.lit (.bool true)] ++ ds, [], ([] ++ p) ++ [], ⟨[] ++ p, [], trodAll_append (hargs _ (fun _ _ => rfl)) (hres _ _ _), by rw [hv]; rfl, rfl, ?_, ?_⟩, ?_⟩
    · intro b off hp
      rw [hbelow.frozen (p := ⟨b, off, none⟩) (hlt (.cell b off) (by simpa using hp))]
      exact hfz b off (by simpa using hp)
    · intro ha
      simpa using hnd ha
    · intro z hz _
      simpa using hz
theorem u8_cs (n : { n : Int // (Lit.int .u8 n).wf = true }) : [PV.int .u8 (UInt8.ofNat n.1.toNat).toNat] = [.int .u8 n.1] := by
  obtain ⟨n, hn⟩ := n
  have h : 0 ≤ n ∧ n ≤ 255 := by simpa [Lit.wf, IntKind.min, IntKind.max, IntKind.signed, IntKind.bits] using hn
  have h3 : (UInt8.ofNat n.toNat).toNat = n.toNat := by simp [UInt8.toNat_ofNat']; omega
  simp only [h3, Int.toNat_of_nonneg h.1]
theorem pvB_of (x : Vector UInt8 16) : pvB x = x.toList.flatMap fun b => [PV.int .u8 b.toNat] := by
  simp only [pvB, pvBy]
  induction x.toList with
  | nil => rfl
  | cons a t ih => simp [ih]
theorem two_of (x : Vector NId 2) : twoCs x[0] x[1] = x.toList.flatMap NId.cs := by
  obtain ⟨⟨l⟩, h⟩ := x
  match l, h with
  | [a, b], _ => simp [twoCs]

end Pv
