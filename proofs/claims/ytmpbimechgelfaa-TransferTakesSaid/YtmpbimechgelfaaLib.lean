/- Words of this session's own: a slice that is read, a slice that the call owns, an append onto it. Conditions: none beyond each theorem's own. -/
import Derived.WalkKit
import Derived.WalkSpells
import Derived.WalkLawsBesides
import Derived.KernelRfl
import Derived.Lib.Hide
import Derived.Outline
import Derived.BigQuiet
import Derived.Deep.QuietTactic
import Derived.Maps.AppendAt
import Derived.Laws.OwnMore
import Derived.Laws.AppendOwnNone
import Derived.StillTailTactics
namespace Go.Proofs.Ytmpbimechgelfaa
open Go Go.RowKit

/-- The slice at A, of n elements of sz cells each, holds the cells f, below block B. -/
def Rd (w : World) (B sz : Nat) (A : Option Addr) (n : Nat) (f : Nat → Value) : Prop :=
  0 < n → ∃ b off, A = some ⟨b, off, none⟩ ∧ b < B ∧ ∀ j, j < n * sz → w.cell? ⟨b, off + j, none⟩ = some (f j)

/-- The slice value v, of n elements of sz cells of type e, is the call's own (blocks from base on) and holds the cells f. -/
def Own (w : World) (base : Nat) (e : TypeId) (sz : Nat) (v : Value) (n : Nat) (f : Nat → Value) : Prop :=
  w.ownsRow base e sz v n ((List.range (n * sz)).map f)

section
variable {w w' : World} {B B' sz n : Nat} {A : Option Addr} {f f' : Nat → Value}
theorem Rd.zero : Rd w B sz A 0 f := fun h => absurd h (by omega)
theorem Rd.new {w : World} {cs : Array Value} {e : TypeId} {n sz : Nat} {f : Nat → Value} (hc : ∀ j, j < n * sz → cs[j]? = some (f j)) : Rd (w.alloc (.cells cs e)) (w.heap.size + 1) sz (some ⟨w.heap.size, 0, none⟩) n f :=
  fun _ => ⟨_, 0, rfl, by omega, fun j hj => by
    rw [Nat.zero_add, cell_of_row (w.alloc (.cells cs e)) w.heap.size j cs e (0, 0) (heap_alloc_new w _)]; exact hc j hj⟩
theorem Rd.keep (h : Rd w B sz A n f) (hk : ∀ b off, b < B → w'.cell? ⟨b, off, none⟩ = w.cell? ⟨b, off, none⟩) : Rd w' B sz A n f := fun hn => by
  obtain ⟨b, off, hA, hb, hc⟩ := h hn
  exact ⟨b, off, hA, hb, fun j hj => (hk b _ hb).trans (hc j hj)⟩
theorem Rd.more (h : Rd w B sz A n f) (hB : B ≤ B') : Rd w B' sz A n f := fun hn => by
  obtain ⟨b, off, hA, hb, hc⟩ := h hn
  exact ⟨b, off, hA, by omega, hc⟩
theorem Rd.congr (h : Rd w B sz A n f) (he : ∀ j, j < n * sz → f j = f' j) : Rd w B sz A n f' := fun hn => by
  obtain ⟨b, off, hA, hb, hc⟩ := h hn
  exact ⟨b, off, hA, hb, fun j hj => by rw [← he j hj]; exact hc j hj⟩
theorem Rd.below (h : Rd w B sz A n f) (hb : Below B w w') : Rd w' B sz A n f := h.keep fun b off hlt => hb.cell (p := ⟨b, off, none⟩) hlt
theorem Rd.alloc (h : Rd w B sz A n f) (hB : B ≤ w.heap.size) (o : Obj) : Rd (w.alloc o) B sz A n f := h.below ((Below.refl _ _).alloc hB o)
theorem Rd.drew (h : Rd w B sz A n f) : Rd w.drew B sz A n f := h
theorem Rd.drewN (h : Rd w B sz A n f) (q : Nat) : Rd (w.drewN q) B sz A n f := h
theorem Rd.setCell (h : Rd w B sz A n f) {p : Addr} (hp : B ≤ p.block) (u : Value) : Rd (w.setCell p u) B sz A n f := h.below ((Below.refl _ _).setCell hp u)
theorem Rd.take (h : Rd w B sz A n f) {m : Nat} (hm : m ≤ n) : Rd w B sz A m f := fun hn => by
  obtain ⟨b, off, hA, hb, hc⟩ := h (by omega)
  exact ⟨b, off, hA, hb, fun j hj => hc j (Nat.lt_of_lt_of_le hj (Nat.mul_le_mul_right _ hm))⟩
end

theorem below_chain {a w w' : World} (h : Below a.heap.size a w) (k : Below w.heap.size w w') : Below a.heap.size a w' := h.trans (k.mono h.size)
theorem below_drewN {B : Nat} {a w : World} (h : Below B a w) (n : Nat) : Below B a (w.drewN n) := h.trans ⟨rfl, rfl, rfl, Nat.le_refl _, fun _ _ => rfl⟩

theorem map_set (f : Nat → Value) (N j : Nat) (u : Value) : ((List.range N).map f).set j u = (List.range N).map (fun i => if i = j then u else f i) := by
  refine List.ext_getElem (by simp) fun i h1 h2 => ?_
  rw [List.getElem_set]
  simp only [List.getElem_map, List.getElem_range]
  by_cases h : j = i
  · rw [if_pos h, if_pos h.symm]
  · rw [if_neg h, if_neg (fun e => h e.symm)]
theorem map_join (f f2 : Nat → Value) (n m sz : Nat) : (List.range (n * sz)).map f ++ (List.range (m * sz)).map f2 = (List.range ((n + m) * sz)).map (fun j => if j < n * sz then f j else f2 (j - n * sz)) := by
  rw [Nat.add_mul, List.range_add, List.map_append, List.map_map]
  congr 1
  · exact List.map_congr_left fun j hj => by rw [if_pos (by simpa using hj)]
  · exact List.map_congr_left fun j hj => by
      show f2 j = if n * sz + j < n * sz then f (n * sz + j) else f2 (n * sz + j - n * sz)
      rw [if_neg (by omega), Nat.add_sub_cancel_left]

section
variable {w w' : World} {base e sz n : Nat} {v : Value} {f f' : Nat → Value}
theorem Own.nil : Own w base e sz (.slice none 0 0) 0 f := by
  unfold Own; simpa using World.ownsRow_nil w base e sz
theorem Own.made {f : Nat → Value} (w : World) (cur : Array Value) (cap : Nat) (hb : base ≤ w.heap.size) (hm : cap ≤ maxLen) (hs : cur.size = cap * sz) :
    Own (w.alloc (.cells cur e)) base e sz (.slice (some ⟨w.heap.size, 0, none⟩) 0 cap) 0 f := by
  have h := World.ownsRow_made (base := base) (e := e) (size := sz) w cur cap hb hm hs
  unfold Own; simpa using h
theorem Own.congr (h : Own w base e sz v n f) (he : ∀ j, j < n * sz → f j = f' j) : Own w base e sz v n f' := by
  unfold Own at *
  rwa [show (List.range (n * sz)).map f' = (List.range (n * sz)).map f from List.map_congr_left fun j hj => (he j (by simpa using hj)).symm]
theorem Own.form (h : Own w base e sz v n f) (hn : 0 < n) : ∃ g cap, v = .slice (some ⟨g, 0, none⟩) n cap ∧ base ≤ g ∧ g < w.heap.size ∧ n ≤ cap ∧ cap ≤ maxLen := by
  rcases h.2 with ⟨_, h0⟩ | ⟨g, cap, cur, hv, hb, hg, hc, hm, _⟩
  · omega
  · exact ⟨g, cap, hv, hb, (Array.getElem?_eq_some_iff.1 hg).1, hc, hm⟩
theorem Own.shape (h : Own w base e sz v n f) : ∃ A cap, v = .slice A n cap ∧ n ≤ cap ∧ cap ≤ maxLen ∧ (A = none → n = 0 ∧ cap = 0) := by
  rcases h.2 with ⟨rfl, rfl⟩ | ⟨g, cap, cur, hv, hb, hg, hc, hm, _⟩
  · exact ⟨none, 0, rfl, Nat.le_refl _, Nat.zero_le _, fun _ => ⟨rfl, rfl⟩⟩
  · exact ⟨_, cap, hv, hc, hm, fun h => by cases h⟩
theorem Own.cell {g cap : Nat} (h : Own w base e sz (.slice (some ⟨g, 0, none⟩) n cap) n f) (j : Nat) (hj : j < n * sz) : w.cell? ⟨g, j, none⟩ = some (f j) := by
  rw [World.ownsRow.cellAt h j hj]; simp [hj]
theorem Own.free {g cap : Nat} (h : Own w base e sz (.slice (some ⟨g, 0, none⟩) n cap) n f) (j : Nat) : w.frozen? ⟨g, j, none⟩ = false := World.ownsRow.frozenAt h j
theorem Own.rd {A : Option Addr} {cap : Nat} (h : Own w base e sz (.slice A n cap) n f) : Rd w w.heap.size sz A n f := fun hn => by
  obtain ⟨g, cap', hv, hb, hlt, _⟩ := h.form hn
  injection hv with hA _ hc
  subst hA hc
  exact ⟨g, 0, rfl, hlt, fun j hj => by rw [Nat.zero_add]; exact h.cell j hj⟩
theorem Own.kept {row : Option Nat} (h : Own w base e sz v n f) (hg : w.grownBy w' row) (hne : v.ownBlock = none ∨ v.ownBlock ≠ row) : Own w' base e sz v n f := World.ownsRow.kept h hg hne
theorem Own.block (h : Own w base e sz v n f) : ∀ k, v.ownBlock = some k → base ≤ k ∧ k < w.heap.size := World.ownsRow.lt h
theorem Own.alloc (h : Own w base e sz v n f) (o : Obj) : Own (w.alloc o) base e sz v n f := World.ownsRow.alloc h o
theorem Own.drew (h : Own w base e sz v n f) : Own w.drew base e sz v n f := h
theorem Own.drewN (h : Own w base e sz v n f) (q : Nat) : Own (w.drewN q) base e sz v n f := h
theorem Own.below (h : Own w base e sz v n f) (hb : Below w.heap.size w w') : Own w' base e sz v n f :=
  h.kept (row := none) ⟨hb.os, hb.tape, hb.output, hb.size, fun k hk _ => hb.block k hk⟩ (by cases hv : v.ownBlock <;> simp)
theorem Own.far (h : Own w base e sz v n f) {p : Addr} (hp : v.ownBlock ≠ some p.block) (u : Value) : Own (w.setCell p u) base e sz v n f :=
  h.kept (row := some p.block) ⟨rfl, rfl, rfl, by simp, fun k _ hk => heap_setCell_other w p k u (fun e => hk (by rw [e]))⟩ (.inr hp)
theorem Own.mono {base' : Nat} (h : Own w base e sz v n f) (hb : base' ≤ base) : Own w base' e sz v n f := by
  refine ⟨h.1, ?_⟩
  rcases h.2 with h0 | ⟨g, cap, cur, hv, hg, rest⟩
  · exact .inl h0
  · exact .inr ⟨g, cap, cur, hv, by omega, rest⟩
theorem Own.set {g cap : Nat} (h : Own w base e sz (.slice (some ⟨g, 0, none⟩) n cap) n f) (j : Nat) (u : Value) :
    Own (w.setCell ⟨g, j, none⟩ u) base e sz (.slice (some ⟨g, 0, none⟩) n cap) n (fun i => if i = j then u else f i) ∧ w.grownBy (w.setCell ⟨g, j, none⟩ u) (some g) := by
  obtain ⟨h1, h2⟩ := World.ownsRow.stored h j u
  refine ⟨?_, h2⟩
  unfold Own
  rw [map_set] at h1
  exact h1
theorem Own.join {f2 : Nat → Value} {m : Nat} (h : w.ownsRow base e sz v (n + m) ((List.range (n * sz)).map f ++ (List.range (m * sz)).map f2)) :
    Own w base e sz v (n + m) (fun j => if j < n * sz then f j else f2 (j - n * sz)) := by
  unfold Own
  rw [← map_join]
  exact h
end

section
variable {P : Program} (w : World)
theorem add_addr (b off j : Nat) : (⟨b, off, none⟩ : Addr).add j = ⟨b, off + j, none⟩ := by
  unfold Addr.add
  split
  · next h => subst h; rfl
  · rfl
theorem run_app (base t ty e : Nat) (i : TypeInfo) (z : Value) (sz bytes : Nat) (ht : P.underlying t = some (.slice e)) (hi : P.info? e = some i) (hz : i.zero = some z)
    (hsize : i.size = sz) (hby : i.bytes = bytes) (hzs : z.cells.size = sz) (hsz : 0 < sz) (v : Value) (n : Nat) (f : Nat → Value) (hown : Own w base e sz v n f)
    (B : Nat) (A : Option Addr) (m c : Nat) (f2 : Nat → Value) (hr : Rd w B sz A m f2) (hc : A = none → c = 0) (h1 : ∀ j, j < m * sz → (f2 j).oneCell' = true)
    (h63 : n + m ≤ maxLen) (hbytes : (n + m) * bytes ≤ 140737488355328) (hbase : base ≤ w.heap.size) :
    ∃ v' w', (Builtin.append_ #[t, t] ty #[v, .slice A m c]).run P w = .ok v' w' ∧ Own w' base e sz v' (n + m) (fun j => if j < n * sz then f j else f2 (j - n * sz)) ∧
      w.grownBy w' v.ownBlock ∧ (v'.ownBlock = v.ownBlock ∨ v'.ownBlock = some w.heap.size) := by
  rcases A with _ | ad
  · have hm : m = 0 := by
      rcases Nat.eq_zero_or_pos m with h0 | h0
      · exact h0
      · obtain ⟨_, _, h, _⟩ := hr h0
        cases h
    subst hm
    obtain rfl := hc rfl
    exact ⟨v, w, run_append_owned_none w base t ty e i sz ht hi v n _ hown, hown.congr fun j hj => by rw [if_pos (by simpa using hj)], World.grownBy.refl w _, .inl rfl⟩
  · have hnews : ∀ j u, ((List.range (m * sz)).map f2)[j]? = some u → w.cell? (ad.add j) = some u := by
      intro j u hu
      have hj : j < m * sz := by have := (List.getElem?_eq_some_iff.1 hu).1; simpa using this
      rcases Nat.eq_zero_or_pos m with h0 | h0
      · subst h0; omega
      · obtain ⟨b, off, h, _, hcell⟩ := hr h0
        injection h with h
        subst h
        rw [add_addr, hcell j hj]
        simpa [hj] using hu
    obtain ⟨v', w', hrun, h2, h3, _, h5⟩ := run_append_own_at (P := P) w base t ty e i z sz bytes ht hi hz hsize hby hzs hsz v n _ hown ad m c ((List.range (m * sz)).map f2) (by simp) hnews
      (by intro u hu; simp only [List.mem_map, List.mem_range] at hu; obtain ⟨j, hj, rfl⟩ := hu; exact h1 j hj) h63 hbytes hbase
    exact ⟨v', w', hrun, Own.join h2, h3, h5⟩

/-- 'append(s, x...)' onto a slice of the call's own, at a plain region. -/
theorem wp_app {o : Oper} {a : Act} {K : Act → World → Prop} {Q : Exit → Act → World → Prop} (s x : Operand) (t : Nat)
    (ho : o.op = .call { callee := .builtin .append, args := #[s, x], argTypes := #[t, t] }) (base e : Nat) (i : TypeInfo) (z : Value) (sz bytes : Nat)
    (ht : P.underlying t = some (.slice e)) (hi : P.info? e = some i) (hz : i.zero = some z) (hsize : i.size = sz) (hby : i.bytes = bytes) (hzs : z.cells.size = sz) (hsz : 0 < sz)
    (v : Value) (n : Nat) (f : Nat → Value) (hs : a.eval s = v) (hown : Own w base e sz v n f) (B : Nat) (A : Option Addr) (m c : Nat) (f2 : Nat → Value) (hx : a.eval x = .slice A m c)
    (hr : Rd w B sz A m f2) (hc : A = none → c = 0) (h1 : ∀ j, j < m * sz → (f2 j).oneCell' = true) (h63 : n + m ≤ maxLen) (hbytes : (n + m) * bytes ≤ 140737488355328) (hbase : base ≤ w.heap.size)
    (h : ∀ v' w', Own w' base e sz v' (n + m) (fun j => if j < n * sz then f j else f2 (j - n * sz)) → w.grownBy w' v.ownBlock → (v'.ownBlock = v.ownBlock ∨ v'.ownBlock = some w.heap.size) →
      K (a.put o.dst v') w') : o.wp P a w K Q := by
  obtain ⟨v', w', hrun, h2, h3, h4⟩ := run_app (P := P) w base t o.type e i z sz bytes ht hi hz hsize hby hzs hsz v n f hown B A m c f2 hr hc h1 h63 hbytes hbase
  unfold Oper.wp execOp
  simp only [ho, resolve, invoke, builtin, Sem.run_bind, Sem.run_pure, Result.andThen_ok, List.map_toArray, List.map_cons, List.map_nil, hs, hx, hrun]
  exact h v' w' h2 h3 h4
/-- The same, at a region that draws its order. -/
theorem step_app {ops : Array Oper} {E : Prop} {o : Oper} {a : Act} {K : Act → World → Prop} {Q : Exit → Act → World → Prop} (hgd : o.guard = none) (s x : Operand) (t : Nat)
    (ho : o.op = .call { callee := .builtin .append, args := #[s, x], argTypes := #[t, t] }) (base e : Nat) (i : TypeInfo) (z : Value) (sz bytes : Nat)
    (ht : P.underlying t = some (.slice e)) (hi : P.info? e = some i) (hz : i.zero = some z) (hsize : i.size = sz) (hby : i.bytes = bytes) (hzs : z.cells.size = sz) (hsz : 0 < sz)
    (v : Value) (n : Nat) (f : Nat → Value) (hs : a.eval s = v) (hown : Own w base e sz v n f) (B : Nat) (A : Option Addr) (m c : Nat) (f2 : Nat → Value) (hx : a.eval x = .slice A m c)
    (hr : Rd w B sz A m f2) (hc : A = none → c = 0) (h1 : ∀ j, j < m * sz → (f2 j).oneCell' = true) (h63 : n + m ≤ maxLen) (hbytes : (n + m) * bytes ≤ 140737488355328) (hbase : base ≤ w.heap.size)
    (h : ∀ v' w', Own w' base e sz v' (n + m) (fun j => if j < n * sz then f j else f2 (j - n * sz)) → w.grownBy w' v.ownBlock → (v'.ownBlock = v.ownBlock ∨ v'.ownBlock = some w.heap.size) →
      K (a.put o.dst v') w') : if Region.wanted o (yielded ops a.tmps) = true then Oper.wp P o a w K Q else E := by
  have hw : Region.wanted o (yielded ops a.tmps) = true := by simp [Region.wanted, hgd]
  rw [if_pos hw]
  exact wp_app w s x t ho base e i z sz bytes ht hi hz hsize hby hzs hsz v n f hs hown B A m c f2 hx hr hc h1 h63 hbytes hbase h
theorem wpl_app {ops : Array Oper} {rest : List Oper} {o : Oper} {a : Act} {Q : Exit → Act → World → Prop} (hgd : o.guard = none) (s x : Operand) (t : Nat)
    (ho : o.op = .call { callee := .builtin .append, args := #[s, x], argTypes := #[t, t] }) (base e : Nat) (i : TypeInfo) (z : Value) (sz bytes : Nat)
    (ht : P.underlying t = some (.slice e)) (hi : P.info? e = some i) (hz : i.zero = some z) (hsize : i.size = sz) (hby : i.bytes = bytes) (hzs : z.cells.size = sz) (hsz : 0 < sz)
    (v : Value) (n : Nat) (f : Nat → Value) (hs : a.eval s = v) (hown : Own w base e sz v n f) (B : Nat) (A : Option Addr) (m c : Nat) (f2 : Nat → Value) (hx : a.eval x = .slice A m c)
    (hr : Rd w B sz A m f2) (hc : A = none → c = 0) (h1 : ∀ j, j < m * sz → (f2 j).oneCell' = true) (h63 : n + m ≤ maxLen) (hbytes : (n + m) * bytes ≤ 140737488355328) (hbase : base ≤ w.heap.size)
    (h : ∀ v' w', Own w' base e sz v' (n + m) (fun j => if j < n * sz then f j else f2 (j - n * sz)) → w.grownBy w' v.ownBlock → (v'.ownBlock = v.ownBlock ∨ v'.ownBlock = some w.heap.size) →
      wpList P ops Q rest (a.put o.dst v') w') : wpList P ops Q (o :: rest) a w :=
  wpList_plain hgd fun _ hK => wp_app w s x t ho base e i z sz bytes ht hi hz hsize hby hzs hsz v n f hs hown B A m c f2 hx hr hc h1 h63 hbytes hbase fun v' w' h2 h3 h4 => hK _ _ (h v' w' h2 h3 h4)
end
end Go.Proofs.Ytmpbimechgelfaa
