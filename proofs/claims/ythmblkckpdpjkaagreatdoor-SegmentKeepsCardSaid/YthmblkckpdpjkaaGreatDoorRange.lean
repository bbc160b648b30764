/-
  A loop over an iterator that stores into a box of its own: the word between both, and the loop's law (no way out of the loop but its end).
-/
import Derived.Test.YthmblkckpdpjkaaGreatDoorScan
namespace Go.Proofs.YthmblkckpdpjkaaGreatDoor
open Go.RowKit Go.Shelf

variable {F : Fence} {n : Nat} {P : Program}

/-- What an iterator that turns the block Bp, and lays new ones, promises. Gx: what holds of what it yields. -/
def SeqBox {α : Type} (F : Fence) (n : Nat) (P : Program) (g : Nat) (lb : Array Value) (encs : α → Array Value) (Gx : α → World → World → Prop) (Kp : World → World → World → Prop) (S : List α → Prop) (N Bp : Nat) (w : World) : Prop :=
  ∀ (l : Nat) (J : List α → World → Prop) (W : World), Below w.heap.size w W → (∀ s X Y, J s X → X.grownBy Y (some Bp) → J s Y) →
    (∀ pre x W0 W1, J pre W0 → pre.length < N → Below W0.heap.size W0 W1 → Gx x W0 W1 → YieldAt F (n - 1) P l (encs x) W1 fun e W' => e = .returned (.bool true) ∧ J (pre ++ [x]) W' ∧ Kp W0 W1 W') →
    J [] W →
    CallsIn F n P g (#[.func (.yield l) #[] #[]] ++ lb) W fun e W' => (∃ v, e = .returned v) ∧ ∃ xs, S xs ∧ J xs W'

/-- What a round may turn, as the loop's invariant sees it: the iterator's box; what is no cells, and was laid since. -/
def Yields {α : Type} (B Bp : Nat) (I : List α → World → Prop) : Prop :=
  ∀ s X Y b, I s X → X.grownBy Y (some b) → (b = Bp ∨ (B ≤ b ∧ ∃ o : Obj, X.heap[b]? = some o ∧ o.isCells = false)) → I s Y
theorem Yields.rec {α : Type} {B Bp : Nat} {I : List α → World → Prop} (h : Yields B Bp I) {s : List α} {W : World} {l : Nat} {o : Obj} (o' : Obj) (hs : I s W) (hB : B ≤ l) (hl : W.heap[l]? = some o) (ho : o.isCells = false) : I s (W.putObj l o') :=
  h s W _ l hs (grownBy_putObj' W l o') (.inr ⟨hB, o, hl, ho⟩)
theorem Yields.lay {α : Type} {B Bp : Nat} {I : List α → World → Prop} (h : Yields B Bp I) {s : List α} {W : World} (o : Obj) (hs : I s W) : I s (W.alloc o) :=
  h s W _ Bp hs ⟨rfl, rfl, rfl, by simp, fun k hk _ => Below.heap_alloc W o k hk⟩ (.inl rfl)

theorem wpIn_rangeFunc_box {α : Type} {g : Operand} {ps : Array Tmp} {assign body : Code} {Q : Exit → Act → World → Prop} {a : Act} {w : World}
    (hro : F.round = none) (h1 : 1 ≤ n) {gf : Nat} {lb : Array Value} (hg : a.eval g = .func (.func gf) #[] lb) (hFg : F.fn gf) (eg : ∀ args w, (callFunc gf args).run P w = .ok (.enter gf args) w)
    {encs : α → Array Value} {Gx : α → World → World → Prop} {Kp : World → World → World → Prop} {S : List α → Prop} {N Bp : Nat} (hseq : SeqBox F (n - 1) P gf lb encs Gx Kp S N Bp w) (hBp : Bp < w.heap.size)
    (hKt : ∀ {X A B C : World}, Kp X A B → Kp X B C → Kp X A C) (hKb : ∀ (X W : World) (l : Nat) (o : Obj), w.heap.size ≤ l → l < X.heap.size → Kp X W (W.putObj l o)) (hps : ∀ x, (encs x).size = ps.size)
    (I : List α → World → Prop) (hI : Yields w.heap.size Bp I) (h0 : I [] w) (Ax : List α → α → World → Act → World → Prop)
    (hAx : ∀ pre x X a' W l o o', Ax pre x X a' W → w.heap.size ≤ l → l < X.heap.size → W.heap[l]? = some o → o.isCells = false → Ax pre x X a' (W.putObj l o'))
    (hassign : ∀ (l : Nat) (pre : List α) (x : α) (X W : World) (K : Act → World → Prop), I pre X → Below X.heap.size X W → Gx x X W → pre.length < N → (∀ a' W', KeepsFrom w.heap.size W W' → Kp X W W' → Ax pre x X a' W' → K a' W') →
      assign.wpIn (F.inRound l) (n - 1 - 1) P (Exit.then K (fun _ _ _ => False)) { tmps := (ps.zip (encs x)).foldl (fun t (p, v) => t.setIfInBounds p v) a.tmps, defers := [] } W)
    (hbody : ∀ (l : Nat) (pre : List α) (x : α) (X : World) (a' : Act) (W : World), Ax pre x X a' W →
      body.wpIn (F.inRound l) (n - 1 - 1) P (Exit.then (fun _ W' => KeepsFrom w.heap.size W W' ∧ Kp X W W' ∧ I (pre ++ [x]) W') (fun _ _ _ => False)) a' W)
    (hdone : ∀ (D : Nat) (xs : List α) (W : World), w.heap.size ≤ D → S xs → I xs W → W.heap[D]? = some (.deferred (some [])) → Q .normal { a with defers := { target := .collected D, args := #[] } :: a.defers } W) :
    (Code.rangeFunc g ps assign body).wpIn F n P Q a w := by
  refine wpIn_rangeFunc ?_
  intro fn hfn
  rw [hro]
  obtain ⟨L, hL⟩ : ∃ L : LoopState → Option Code → Loop, L = fun st pe => { state := st, pending := pe, fn, tmps := a.tmps, params := ps, assign, body, defers := w.heap.size } := ⟨_, rfl⟩
  obtain ⟨W1, hW1⟩ : ∃ W1, (w.alloc (.deferred (some []))).alloc (.loop (L .ready none)) = W1 := ⟨_, rfl⟩
  have loop1 : W1.heap[w.heap.size + 1]? = some (.loop (L .ready none)) := by
    rw [← hW1]; have := World.alloc_heap_new (w.alloc (.deferred (some []))) (.loop (L .ready none)); rwa [World.size_alloc] at this
  have mark1 : W1.heap[w.heap.size]? = some (.deferred (some [])) := by
    rw [← hW1]; exact (Below.heap_alloc _ _ _ (by simp)).trans (World.alloc_heap_new w _)
  have inv1 : I [] W1 := by rw [← hW1]; exact hI.lay _ (hI.lay _ h0)
  have below1 : Below w.heap.size w W1 := by
    rw [← hW1]; exact ((Below.refl _ w).alloc (Nat.le_refl _) _).alloc (by simp) _
  refine ⟨w.heap.size + 1, [{ target := .collected w.heap.size, args := #[] }], W1, { target := .fn (.func gf) lb, args := #[.func (.yield (w.heap.size + 1)) #[] #[]] }, W1, gf,
    #[.func (.yield (w.heap.size + 1)) #[] #[]] ++ lb, W1, ?_, ?_, ?_, ?_, fun _ => h1, ?_⟩
  · rw [← hW1, hL]; exact run_enterLoop_outer _ _ _ _ _
  · simp only [resolve, hg]; simp [go_sem]
  · intro f' hf'; simp [Target.leads] at hf'; subst hf'; exact hFg
  · simp [invoke, go_sem, eg]
  refine (hseq (w.heap.size + 1) (fun pre W => I pre W ∧ W.heap[w.heap.size + 1]? = some (.loop (L .ready none)) ∧ W.heap[w.heap.size]? = some (.deferred (some []))) W1 below1 ?_ ?_ ⟨inv1, loop1, mark1⟩).mono ?_
  · rintro s X Y ⟨hs, hl, hk⟩ hgr
    exact ⟨hI s X Y Bp hs hgr (.inl rfl), (hgr.block _ (Array.getElem?_eq_some_iff.1 hl).1 (by simp; omega)).trans hl, (hgr.block _ (Array.getElem?_eq_some_iff.1 hk).1 (by simp; omega)).trans hk⟩
  · rintro pre x X W ⟨hi, hl0, hk0⟩ hlen hXW hgx
    have hlX := (Array.getElem?_eq_some_iff.1 hl0).1
    have hl := (hXW.block _ hlX).trans hl0
    have hk := (hXW.block _ (Array.getElem?_eq_some_iff.1 hk0).1).trans hk0
    have hy := run_yield (P := P) (args := encs x) hl (by rw [hL]; exact hps x)
    rw [hL] at hy
    refine ⟨fn, _, assign, body, hy, roundIn_of_wpIn hfn (hassign _ pre x X W _ hi hXW hgx hlen ?_)⟩
    intro a' Wa kf kp hax
    have la := kf.same _ _ (by omega) hl rfl
    have ka := kf.same _ _ (Nat.le_refl _) hk rfl
    refine ⟨_, run_beginRound la (by rw [hL]), ?_⟩
    have lb2 : (Wa.putObj (w.heap.size + 1) (.loop { L .ready none with state := .busy })).heap[w.heap.size + 1]? = some (.loop { L .ready none with state := .busy }) := World.putObj_heap_same (Array.getElem?_eq_some_iff.1 la).1
    have kb2 : (Wa.putObj (w.heap.size + 1) (.loop { L .ready none with state := .busy })).heap[w.heap.size]? = some (.deferred (some [])) := (World.putObj_heap_other (by omega)).trans ka
    have kp2 : Kp X Wa (Wa.putObj (w.heap.size + 1) (.loop { L .ready none with state := .busy })) := hKb _ _ _ _ (by omega) hlX
    refine wpIn_mono (hbody _ pre x X a' _ (hAx _ _ _ _ _ _ _ _ hax (by omega) hlX la rfl)) ?_
    rintro e a3 W3 hp
    cases e with
    | normal =>
      obtain ⟨kf3, kp3, hi3⟩ := hp
      have l3 := kf3.same _ _ (by omega) lb2 rfl
      have k3 := kf3.same _ _ (Nat.le_refl _) kb2 rfl
      have hr := run_endRound (P := P) none l3
      rw [hL] at hr
      refine ⟨_, _, hr, rfl, ⟨hI.rec _ hi3 (by omega) l3 rfl, ?_, (World.putObj_heap_other (by omega)).trans k3⟩, hKt kp (hKt (hKt kp2 kp3) (hKb _ _ _ _ (by omega) hlX))⟩
      rw [World.putObj_heap_same (Array.getElem?_eq_some_iff.1 l3).1, hL]; rfl
    | ret => exact hp.elim
    | exit id => exact hp.elim
    | goto t => exact hp.elim
    | panic ch => exact hp.elim
    | outgrown => exact hp.elim
  · rintro e W2 ⟨⟨v, rfl⟩, xs, hS, hi, hl, hk⟩
    have he := run_endLoop (P := P) hl (by rw [hL]; simp)
    rw [hL] at he
    exact ⟨none, _, he, hdone _ xs _ (Nat.le_refl _) hS (hI.rec _ hi (by omega) hl rfl) ((World.putObj_heap_other (by omega)).trans hk)⟩
end Go.Proofs.YthmblkckpdpjkaaGreatDoor
