/- bytes.Join, and slices of bytes that are the call's own, told by their cells. -/
import Derived.Test.YtmpbimechgelfaaConst
import Derived.Test.YtmpbimechgelfaaShelf
import Derived.ArgAppend
namespace Go.Proofs.Ytmpbimechgelfaa
open Go Go.RowKit

/-- The slice v is the call's own (a block from base on), holds the bytes l, and may be written up to its capacity. -/
def Fr (w : World) (base : Nat) (v : Value) (l : List Nat) : Prop :=
  (v = .slice none 0 0 ∧ l = []) ∨ ∃ g cap, v = .slice (some ⟨g, 0, none⟩) l.length cap ∧ base ≤ g ∧ (0 < cap → g < w.heap.size) ∧ l.length ≤ cap ∧ cap ≤ maxLen ∧
    (∀ j, j < l.length → w.cell? ⟨g, j, none⟩ = some (bf l j)) ∧ (∀ j, j < cap → (w.cell? ⟨g, j, none⟩).isSome = true ∧ w.frozen? ⟨g, j, none⟩ = false)
theorem Fr.of_own {w : World} {base : Nat} {v : Value} {l : List Nat} (h : Ob w base v l) : Fr w base v l := by
  obtain ⟨hlen, hc⟩ := h
  rcases hc with ⟨rfl, h0⟩ | ⟨g, cap, cur, rfl, hb, hg, hc, hm, hs, ht⟩
  · exact .inl ⟨rfl, List.length_eq_zero_iff.1 h0⟩
  · refine .inr ⟨g, cap, rfl, hb, fun _ => (Array.getElem?_eq_some_iff.1 hg).1, hc, hm, fun j hj => ?_, fun j hj => ⟨?_, frozen_of_row w g j _ _ hg⟩⟩
    · rw [cell_of_row w g j _ _ _ hg, ← Array.getElem?_toList]
      have h1 : (List.take (l.length * 1) cur.toList)[j]? = ((List.range (l.length * 1)).map (bf l))[j]? := by rw [ht]
      rw [List.getElem?_take_of_lt (by omega)] at h1
      rw [h1]; simp [hj]
    · rw [cell_of_row w g j _ _ _ hg, Array.getElem?_eq_getElem (by omega)]; rfl
theorem Fr.rd {w : World} {base : Nat} {v : Value} {l : List Nat} (h : Fr w base v l) : ∃ A c, v = .slice A l.length c ∧ Bs w w.heap.size A l ∧ l.length ≤ c ∧ c ≤ maxLen ∧ (A = none → c = 0) := by
  rcases h with ⟨rfl, rfl⟩ | ⟨g, cap, rfl, hb, hg, hc, hm, hcell, _⟩
  · exact ⟨none, 0, rfl, Bs.nil, Nat.le_refl _, Nat.zero_le _, fun _ => rfl⟩
  · exact ⟨_, cap, rfl, fun hn => ⟨g, 0, rfl, hg (by omega), fun j hj => by rw [Nat.zero_add]; exact hcell j (by omega)⟩, hc, hm, fun h => by cases h⟩
theorem Fr.below {w w' : World} {base : Nat} {v : Value} {l : List Nat} (h : Fr w base v l) (hb : Below w.heap.size w w') : Fr w' base v l := by
  rcases h with h | ⟨g, cap, hv, hbs, hg, hc, hm, hcell, hsp⟩
  · exact .inl h
  · exact .inr ⟨g, cap, hv, hbs, fun h => Nat.lt_of_lt_of_le (hg h) hb.size, hc, hm, fun j hj => by rw [hb.cell (p := ⟨g, j, none⟩) (hg (by omega))]; exact hcell j hj, fun j hj => by rw [hb.cell (p := ⟨g, j, none⟩) (hg (by omega)), hb.frozen (p := ⟨g, j, none⟩) (hg (by omega))]; exact hsp j hj⟩
theorem below_setCells {B : Nat} {a : World} (b : Nat) : ∀ (vs : List Value) (o : Nat) (w : World), Below B a w → B ≤ b → Below B a (w.setCells b o vs)
  | [], _, _, h, _ => h
  | v :: vs, o, _, h, hb => below_setCells b vs (o + 1) _ (h.setCell (p := ⟨b, o, none⟩) hb v) hb
theorem run_fr {w : World} {base : Nat} {v : Value} {l : List Nat} (h : Fr w base v l) (ad : Addr) (x c : Nat) (hx : w.cell? ad = some (.int .u8 (x : Int))) (hl : l.length ≤ 2000000) (hb : base ≤ w.heap.size) :
    ∃ v' w', (Builtin.append_ #[31, 31] 31 #[v, .slice (some ad) 1 c]).run Try.prog w = .ok v' w' ∧ Fr w' base v' (l ++ [x]) ∧ Below base w w' := by
  obtain ⟨i0, hi0, hz0, hz1, hz2⟩ := info_parts info_u8
  have hnews : ∀ j u, [Value.int .u8 (x : Int)][j]? = some u → w.cell? (ad.add j) = some u := by
    intro j u hu
    cases j with
    | zero => rw [show ad.add 0 = ad from by simp [Addr.add]]; simp at hu; rw [← hu]; exact hx
    | succ j => simp at hu
  have h1 : ∀ u ∈ [Value.int .u8 (x : Int)], u.oneCell' = true := by simp [Value.oneCell']
  have hval : ([x].length * 1) = 1 := rfl
  rcases h with ⟨rfl, rfl⟩ | ⟨g, cap, rfl, hbs, hg, hc, hm, hcell, hsp⟩
  · obtain ⟨v', w', hr, ho, hgr, _⟩ := run_append_own (P := Try.prog) w base 31 31 5 i0 _ 1 1 Try.underlying31 hi0 hz0 hz1 hz2 rfl (by omega) (.slice none 0 0) 0 []
      (World.ownsRow_nil w base 5 1) ad 1 c [.int .u8 (x : Int)] rfl hnews h1 (by unfold maxLen; omega) (by omega) hb
    exact ⟨v', w', hr, Fr.of_own (l := [x]) ho, (Below.refl _ _).grown hgr hb (by intro k hk; cases hk)⟩
  · by_cases hroom : l.length + 1 ≤ cap
    · have hr := run_append_room_cells (P := Try.prog) w 31 31 5 i0 Try.underlying31 hi0 g 0 l.length cap ad 1 c [.int .u8 (x : Int)] (by rw [hz1]; rfl) hnews h1 hroom
        (by intro j hj; rw [hz1, Nat.zero_add, Nat.mul_one]; exact (hsp _ (by simp at hj; omega)).1) (by intro j hj; rw [hz1, Nat.zero_add, Nat.mul_one]; exact (hsp _ (by simp at hj; omega)).2)
      rw [hz1, Nat.zero_add, Nat.mul_one] at hr
      have hin := World.cell?_setCells_in g [.int .u8 (x : Int)] l.length w (by intro j hj; exact (hsp _ (by simp at hj; omega)).1)
      refine ⟨_, _, hr, .inr ⟨g, cap, by rw [List.length_append]; rfl, hbs, ?_, by rw [List.length_append]; exact hroom, hm, fun j hj => ?_, fun j hj => ⟨?_, ?_⟩⟩, below_setCells g _ _ _ (Below.refl _ _) hbs⟩
      · exact fun _ => Nat.lt_of_lt_of_le (hg (by omega)) (below_setCells (B := base) g _ _ _ (Below.refl _ _) hbs).size
      · rw [List.length_append] at hj
        by_cases e : j < l.length
        · rw [World.cell?_setCells_out g _ _ _ _ (by intro _ _; left; exact e), hcell j e]
          unfold bf; rw [List.getElem?_append_left e]
        · obtain rfl : j = l.length := by have : ([x] : List Nat).length = 1 := rfl; omega
          have := hin 0 (by simp)
          rw [Nat.add_zero] at this
          rw [this]; unfold bf; simp
      · by_cases e : j = l.length
        · have := hin 0 (by simp)
          rw [Nat.add_zero] at this
          rw [e, this]; rfl
        · rw [World.cell?_setCells_out g _ _ _ _ (by intro _ _; simp; omega)]; exact (hsp j hj).1
      · rw [World.frozen?_setCells]; exact (hsp j hj).2
    · obtain ⟨v', w', hr, ho, hgr⟩ := run_append_arg_grows (P := Try.prog) w 31 31 5 i0 _ 1 1 Try.underlying31 hi0 hz0 hz1 hz2 rfl (by omega) ⟨g, 0, none⟩ l.length cap ((List.range (l.length * 1)).map (bf l)) (by simp)
        (by intro j u hu; rw [add_addr, Nat.zero_add]; have hj : j < l.length := by have := (List.getElem?_eq_some_iff.1 hu).1; simpa using this
            rw [hcell j hj]; simpa [hj] using hu) ad 1 c [.int .u8 (x : Int)] rfl hnews (by omega) (by unfold maxLen; omega) (by omega)
      refine ⟨v', w', hr, Fr.of_own ?_, (Below.refl _ _).grown hgr hb (by intro k hk; cases hk)⟩
      refine Own.mono ?_ hb
      refine Ob.app (m := [x]) ?_
      refine Own.join ?_
      simpa [bf] using ho
/-- 'append(v, x)' of one byte, at a plain region. -/
theorem wpl_fr {w : World} {ops : Array Oper} {rest : List Oper} {o : Oper} {a : Act} {Q : Exit → Act → World → Prop} (hgd : o.guard = none) (s y : Operand)
    (ho : o.op = .call { callee := .builtin .append, args := #[s, y], argTypes := #[31, 31] }) (hty : o.type = 31) {base : Nat} {v : Value} {l : List Nat} (h : Fr w base v l) (ad : Addr) (x c : Nat)
    (hs : a.eval s = v) (hy : a.eval y = .slice (some ad) 1 c) (hx : w.cell? ad = some (.int .u8 (x : Int))) (hl : l.length ≤ 2000000) (hb : base ≤ w.heap.size)
    (hk : ∀ v' w', Fr w' base v' (l ++ [x]) → Below base w w' → wpList Try.prog ops Q rest (a.put o.dst v') w') : wpList Try.prog ops Q (o :: rest) a w := by
  obtain ⟨v', w', hrun, h2, h3⟩ := run_fr h ad x c hx hl hb
  refine wpList_plain hgd fun K hK => ?_
  unfold Oper.wp execOp
  simp only [ho, hty, resolve, invoke, builtin, Sem.run_bind, Sem.run_pure, Result.andThen_ok, List.map_toArray, List.map_cons, List.map_nil, hs, hy, hrun]
  exact hK _ _ (hk v' w' h2 h3)

/-- The bytes of a list of numbers. -/
def u8s (l : List Nat) : List UInt8 := l.map UInt8.ofNat
theorem u8s_len (l : List Nat) : (u8s l).length = l.length := by simp [u8s]
theorem u8s_at {l : List Nat} (h : Byt l) {i : Nat} {x : UInt8} (hx : (u8s l)[i]? = some x) : l[i]?.getD 0 = x.toNat := by
  unfold u8s at hx
  rw [List.getElem?_map] at hx
  obtain ⟨y, hy, rfl⟩ := Option.map_eq_some_iff.1 hx
  have := h y (List.mem_of_getElem? hy)
  rw [hy]; simp
  omega
/-- A slice of slices of bytes. -/
structure Prt (w : World) (A : Option Addr) (vs : List Value) (ls : List (List Nat)) : Prop where
  len : vs.length = ls.length
  rd : 0 < ls.length → ∃ b off, A = some ⟨b, off, none⟩ ∧ ∀ j v, vs[j]? = some v → w.cell? ⟨b, off + j, none⟩ = some v
  ok : ∀ (j : Nat) v l, vs[j]? = some v → ls[j]? = some l → ∃ B c, v = .slice B l.length c ∧ Bs w w.heap.size B l
  byt : ∀ l ∈ ls, Byt l
theorem join_flat (ls : List (List Nat)) : Lib.join (ls.map u8s) [] = u8s ls.flatten := by
  unfold Lib.join
  rw [List.intercalate]
  induction ls with
  | nil => rfl
  | cons a r ih =>
    cases r with
    | nil => simp
    | cons b r => simp at ih ⊢; rw [ih]; simp [u8s]
theorem lens_flat (ls : List (List Nat)) : Lib.lens (ls.map u8s) = ls.flatten.length := by
  unfold Lib.lens
  induction ls with
  | nil => rfl
  | cons a r ih => simp [u8s_len] at ih ⊢; omega
theorem Fr.fresh {w : World} {B : Nat} {v : Value} {l : List Nat} (hy : Byt l) (h : Lib.FreshBytes B w v (u8s l)) : Fr w B v l := by
  obtain ⟨g, cap, zs, rfl, hb, hlc, hcm, hz, hzr, hbt, hcell, hfr⟩ := h
  rw [u8s_len] at hlc hbt ⊢
  · have hgl : 0 < cap → g < w.heap.size := fun h0 => World.block_lt_of_cell? w _ (hcell 0 h0)
    refine .inr ⟨g, cap, rfl, hb, hgl, hlc, hcm, fun j hj => ?_, fun j hj => ⟨by rw [hcell j hj]; rfl, hfr j hj⟩⟩
    rw [hcell j (by omega)]
    have e1 : (u8s l)[j]? = some (UInt8.ofNat (zs.getD j 0).toNat) := by
      rw [← hbt]; unfold Lib.bytesOf
      rw [List.getElem?_map, List.getElem?_take_of_lt hj, List.getElem?_eq_getElem (by omega)]
      simp [List.getD, List.getElem?_eq_getElem (show j < zs.length by omega)]
    have e2 := u8s_at hy e1
    have e3 := hzr (zs.getD j 0) (by simp [List.getD, List.getElem?_eq_getElem (show j < zs.length by omega)])
    unfold bf
    rw [e2]
    generalize zs.getD j 0 = z at e3 ⊢
    have e4 : (UInt8.ofNat z.toNat).toNat = z.toNat := by simp; omega
    rw [e4, Int.toNat_of_nonneg e3.1]
theorem Prt.at_ {w : World} {A : Option Addr} {vs : List Value} {ls : List (List Nat)} (h : Prt w A vs ls) : ∀ (i : Nat) v l, vs[i]? = some v → (ls.map u8s)[i]? = some l → Lib.HoldsBytes w v l := by
  intro i v l hv hl
  rw [List.getElem?_map] at hl
  obtain ⟨m, hm, rfl⟩ := Option.map_eq_some_iff.1 hl
  obtain ⟨B, c, rfl, hB⟩ := h.ok i v m hv hm
  have hby := h.byt m (List.mem_of_getElem? hm)
  refine ⟨B, c, by rw [u8s_len], ?_, ?_⟩
  · rintro rfl
    rcases Nat.eq_zero_or_pos m.length with h0 | h0
    · rw [List.length_eq_zero_iff.1 h0]; rfl
    · obtain ⟨_, _, he, _⟩ := hB h0
      cases he
  · rintro a rfl j x hx
    have hj : j < m.length := by have := (List.getElem?_eq_some_iff.1 hx).1; rwa [u8s_len] at this
    obtain ⟨b, off, he, _, hcell⟩ := hB (by omega)
    injection he with he
    subst he
    rw [add_addr, hcell j (by omega)]
    unfold bf
    rw [u8s_at hby hx]
theorem byt_flat {ls : List (List Nat)} (h : ∀ l ∈ ls, Byt l) : Byt ls.flatten := by
  intro x hx
  obtain ⟨l, hl, hxl⟩ := List.mem_flatten.1 hx
  exact h l hl x hxl
theorem join_any (A : Option Addr) (c : Nat) (vs : List Value) (ls : List (List Nat)) (w : World) (h : Prt w A vs ls) (hc : ls.length ≤ c) (hn : ls.length ≤ 1000) (hl : ls.flatten.length ≤ 1000000) :
    Calls Try.prog 49 #[.slice A ls.length c, .slice none 0 0] w fun e w' => ∃ v, e = .returned v ∧ Fr w' w.heap.size v ls.flatten ∧ Below w.heap.size w w' := by
  have hby := byt_flat h.byt
  by_cases h2 : 2 ≤ ls.length
  · obtain ⟨b, off, rfl, hrd⟩ := h.rd (by omega)
    refine (Try.bytes_Join_many b off ls.length c vs (ls.map u8s) (.slice none 0 0) [] w (by simp) h2 ⟨by rw [h.len]; simp, fun i v hv => by rw [add_addr]; exact hrd i v hv, h.at_⟩ hc
      ⟨none, 0, rfl, fun _ => rfl, fun _ h => by cases h⟩ (by omega) (by rw [lens_flat, List.length_nil, Nat.zero_mul]; omega)).mono ?_
    rintro e w' ⟨v, rfl, hf, hb⟩
    rw [join_flat] at hf
    exact ⟨v, rfl, Fr.fresh hby hf, hb⟩
  · match ls, h, hc, hn, hl, hby, h2 with
    | [], h, hc, hn, hl, hby, h2 =>
      refine (Try.bytes_Join_none A c (.slice none 0 0) w).mono ?_
      rintro e w' ⟨rfl, rfl⟩
      refine ⟨_, rfl, .inr ⟨_, 0, rfl, Nat.le_refl _, fun h => by omega, Nat.le_refl _, by unfold maxLen; omega, fun j hj => by simp at hj, fun j hj => by omega⟩, (Below.refl _ _).alloc (Nat.le_refl _) _⟩
    | [l], h, hc, hn, hl, hby, h2 =>
      obtain ⟨b, off, rfl, hrd⟩ := h.rd (by simp)
      obtain ⟨v, hv⟩ : ∃ v, vs[0]? = some v := ⟨_, List.getElem?_eq_getElem (by rw [h.len]; simp)⟩
      obtain ⟨B, c0, rfl, hB⟩ := h.ok 0 v l hv rfl
      have hcell := hrd 0 _ hv
      rw [Nat.add_zero] at hcell
      have hbl := h.byt l (by simp)
      by_cases h0 : 0 < l.length
      · obtain ⟨b1, o1, rfl, hb1, hc1⟩ := hB h0
        refine (Try.bytes_Join_one b off c ⟨b1, o1, none⟩ c0 (u8s l) (.slice none 0 0) w (by rw [u8s_len]; exact hcell) (fun i x hx => ?_) (by rw [u8s_len]; exact h0) (by rw [u8s_len]; simp at hl; omega)).mono ?_
        · have hi : i < l.length := by have := (List.getElem?_eq_some_iff.1 hx).1; rwa [u8s_len] at this
          rw [add_addr, hc1 i (by omega)]
          unfold bf
          rw [u8s_at hbl hx]
        · rintro e w' ⟨v, rfl, hf, hb⟩
          exact ⟨v, rfl, by simpa using Fr.fresh hbl hf, hb⟩
      · have hl0 : l = [] := List.length_eq_zero_iff.1 (by omega)
        subst hl0
        refine (Try.bytes_Join_one_empty b off c B c0 (.slice none 0 0) w hcell).mono ?_
        rintro e w' ⟨rfl, rfl⟩
        exact ⟨_, rfl, .inl ⟨rfl, rfl⟩, Below.refl _ _⟩
    | a :: b :: r, h, hc, hn, hl, hby, h2 => simp at h2
end Go.Proofs.Ytmpbimechgelfaa
