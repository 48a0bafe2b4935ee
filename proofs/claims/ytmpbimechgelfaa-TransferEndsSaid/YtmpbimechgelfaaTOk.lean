/- What a manifest that Build made is good for. -/
import Derived.Test.YtmpbimechgelfaaBuild
import Derived.Test.YtmpbimechgelfaaFind
namespace Go.Proofs.Ytmpbimechgelfaa
open Go Go.RowKit

/-- M is the manifest of the image l in chunks of k bytes, with the digests hs. -/
def Mok (w : World) (M : Array Value) (l : List Nat) (k : Nat) (hs : List (Nat → Nat)) : Prop :=
  ∃ A c, M = mcv (l.length : Int) (k : Int) (.slice A hs.length c) (sumH l) ∧ Hs w w.heap.size A hs ∧ hs = bldHs l k hs.length ∧ chkB (l.length : Int) (k : Int) hs.length = true ∧ hs.length ≤ c ∧ c ≤ maxLen
section
variable {w w' : World} {M : Array Value} {l : List Nat} {k : Nat} {hs : List (Nat → Nat)}
theorem Mok.next (h : Mok w M l k hs) (hb : Below w.heap.size w w') : Mok w' M l k hs := by
  obtain ⟨A, c, e, hh, rest⟩ := h
  exact ⟨A, c, e, hh.next hb, rest⟩
theorem Mok.size (h : Mok w M l k hs) : (Try.prog.info? 35).map (·.size) = some M.size := by
  obtain ⟨A, c, rfl, _⟩ := h
  exact size_mcv
theorem Mok.size0 (h : Mok w M l k hs) : mc0.size = M.size := by
  obtain ⟨A, c, rfl, _⟩ := h
  rw [mcv_size, mc0_size]
theorem Mok.all (h : Mok w M l k hs) : M.all (·.oneCell') = true := by
  obtain ⟨A, c, rfl, _⟩ := h
  exact mcv_all _ _ _ _ _ _
theorem Mok.chk (h : Mok w M l k hs) : chkB (l.length : Int) (k : Int) hs.length = true := by
  obtain ⟨A, c, _, _, _, hc, _⟩ := h
  exact hc
theorem Mok.cell2 (h : Mok w M l k hs) {g : Nat} (hg : w.heap[g]? = some (.cells M 35 (0, 0))) : ∃ A c, w.cell? ⟨g, 2, none⟩ = some (.slice A hs.length c) := by
  obtain ⟨A, c, rfl, _⟩ := h
  exact ⟨A, c, MB.c2 hg⟩
/-- How Build ends. -/
def Bld3 (l : List Nat) (kI : Int) (w : World) (e : Ending) (w' : World) : Prop :=
  Below w.heap.size w w' ∧ (e = .returned (.tuple #[.agg mc0, .int .i64 1]) ∨ ∃ (k : Nat) (M : Array Value) (hs : List (Nat → Nat)), kI = (k : Int) ∧ e = .returned (.tuple #[.agg M, .int .i64 0]) ∧ Mok w' M l k hs)
theorem build3 (A : Option Addr) (c : Nat) (l : List Nat) (kI : Int) (w : World) (h : Bs w w.heap.size A l) (hc : l.length ≤ c) (hby : Byt l) :
    Calls Try.prog 20 #[.slice A l.length c, .int .i64 kI] w (Bld3 l kI w) := by
  refine (build_any A c l kI w h hc hby).mono ?_
  rintro e w' ⟨hb, ⟨-, rfl⟩ | ⟨hn, A', c', rfl, hh, hnc, hcm⟩⟩
  · exact ⟨hb, .inl rfl⟩
  · have hchk : chkB (l.length : Int) kI (chN (l.length : Int) kI) = true := by unfold chkB; simp; omega
    have hk : kI = (kI.toNat : Int) := by have := (chk_facts hchk).2.2.1; omega
    refine ⟨hb, .inr ⟨kI.toNat, _, bldHs l kI.toNat (chN (l.length : Int) kI), hk, rfl, A', c', ?_, hh, ?_, ?_, ?_, hcm⟩⟩
    · rw [bldHs_len, ← hk]
    · rw [bldHs_len]
    · rw [bldHs_len, ← hk]; exact hchk
    · rw [bldHs_len]; exact hnc
theorem take_ok (h : Mok w M l k hs) (A3 : Option Addr) (c3 : Nat) (hv : List Bool) (i : Int) (A2 : Option Addr) (c2 : Nat) (b : List Nat) (h3 : Bo w w.heap.size A3 hv) (hnn : A3 = none → hv.length = 0) (hl3 : hv.length ≤ 1000) (hb : Bs w w.heap.size A2 b) (hby : Byt b) :
    Calls Try.prog 21 #[.agg M, .slice A3 hv.length c3, .int .i64 i, .slice A2 b.length c2] w
      (TakeEnd w.heap.size (tkE (verI (l.length : Int) (k : Int) hs i b) (decide (hv.length = hs.length))) (tkL (verI (l.length : Int) (k : Int) hs i b) (decide (hv.length = hs.length)) hv i.toNat) w) := by
  obtain ⟨A, c, rfl, hh, _⟩ := h
  exact take_any _ _ A c hs _ A3 c3 hv i A2 c2 b w hh h3 hnn hl3 hb hby
theorem verify_ok (h : Mok w M l k hs) (i : Int) (A2 : Option Addr) (c2 : Nat) (b : List Nat) (hb : Bs w w.heap.size A2 b) (hby : Byt b) :
    Calls Try.prog 23 #[.agg M, .int .i64 i, .slice A2 b.length c2] w fun e w' => e = .returned (.int .i64 (verI (l.length : Int) (k : Int) hs i b)) ∧ Below w.heap.size w w' := by
  obtain ⟨A, c, rfl, hh, _⟩ := h
  exact verify_any _ _ A c hs _ i A2 c2 b w hh hb hby
theorem find_ok (h : Mok w M l k hs) (A2 : Option Addr) (c2 : Nat) (b : List Nat) (hb : Bs w w.heap.size A2 b) (hc : b.length ≤ c2) (hby : Byt b) :
    Calls Try.prog 24 #[.agg M, .slice A2 b.length c2] w (OlEnd w.heap.size (fndL (l.length : Int) (k : Int) hs b hs.length) w) := by
  obtain ⟨A, c, rfl, hh, _, hck, _⟩ := h
  have h1 := find_any (l.length : Int) (k : Int) A c hs (sumH l) A2 c2 b w hh hb hc hby
  unfold findL at h1
  rw [hck] at h1
  exact h1
theorem part_ok (h : Mok w M l k hs) (i : Int) :
    Calls Try.prog 25 #[.agg M, .int .i64 i] w fun e w' => e = .returned (.tuple #[.int .i64 (fromI (l.length : Int) (k : Int) hs.length i), .int .i64 (toI (l.length : Int) (k : Int) hs.length i)]) ∧ Below w.heap.size w w' := by
  obtain ⟨A, c, rfl, hh, _⟩ := h
  exact part_any _ _ A _ c _ i w
theorem none_ok (h : Mok w M l k hs) : Calls Try.prog 26 #[.agg M] w (OlEnd w.heap.size (List.replicate hs.length false) w) := by
  obtain ⟨A, c, rfl, hh, _, hck, _⟩ := h
  exact none_any _ _ A _ c _ w (by have := (chk_facts hck).2.2.2.2.2.1; omega)
end
end Go.Proofs.Ytmpbimechgelfaa
