import Derived.Test.YtdcgclhmfflheaaXbwFbld
import Derived.Maps.OwnSet
import Derived.StringKeys
import Derived.Maps.Views
import Derived.Deep.CutBlock
import Derived.Deep.DeepCutAuto
namespace Go.Proofs.Ytdcgclhmfflheaa.PQ
open Go.RowKit Go.WideMaps Go.Maps Go.Proofs.YtdcgclhmfflheaaW.PrintWords Go.Proofs.YtdcgclhmfflheaaW.PrintLast Go.Proofs.YtdcgclhmfflheaaW.PrintMore
set_option linter.unusedVariables false
set_option linter.unusedSimpArgs false
structure NSt where
 known : ByteArray → Option Nat
 b : ByteArray
 at_ : List Int
def nstep (s : NSt) (k : S56) : NSt :=
 match s.known k.f2 with
 | some p => { s with at_ := s.at_ ++ [(p : Int) % 256] }
 | none => { known := fun x => if x = k.f2 then some s.b.size else s.known x, b := s.b ++ (k.f2 ++ ⟨#[0]⟩), at_ := s.at_ ++ [(s.b.size : Int) % 256] }
def nst (l : List S56) : NSt := l.foldl nstep { known := fun _ => none, b := ⟨#[]⟩, at_ := [] }
def nroom (l : List S56) : Nat := (l.map fun k => k.f2.size + 1).sum
def block_names.f (l0 : List S56) : Option (ByteArray × List Int) :=
 if l0 ≠ [] ∧ nroom l0 ≤ 140737488355328 ∧ l0.length ≤ 140737488355328 then some ((nst l0).b, (nst l0).at_) else none
theorem nlaw : Keyed Try.prog 9 := string_keyed Try.underlying9
theorem zero3 (w : World) : (zeroValue 3).run Try.prog w = .ok (.int .i64 0) w := by kernel_rfl
def NMap (D : DataW Unit) (known : ByteArray → Option Nat) : Prop :=
 ∀ s : ByteArray, Maps.has D (.string s.data.toList) = (known s).isSome ∧ ∀ q, known s = some q → D.atKey (.string s.data.toList) (.lit (.int .i64 0)) = .lit (.int .i64 (q : Int))
structure NInv (n : Nat) (w wr : World) (b0 ga m0 B2 cap : Nat) (s : NSt) (j : Nat) (p v : Value) (cur : Array Value) (D : DataW Unit) : Prop where
 hb : wr.heap[b0]? = some (.cells #[p, v] 126 (0, 0))
 hp : p = .pointer none ∨ p = .pointer (some ⟨b0, 0, none⟩)
 hv : Kd.R (Kd.int .u8) 5 wr B2 (fun _ => True) v (bytesOf s.b)
 hga : wr.heap[ga]? = some (.cells cur 5 (0, 0))
 hcap : cur.size = cap
 hat : cur.toList.take n = nums .u8 (s.at_ ++ List.replicate (n - s.at_.length) 0)
 hm : wr.ownsMap Try.prog 9 (plainElem Try.prog 3) m0 j D
 hD : NMap D s.known
 hB : B2 ≤ wr.heap.size
 hbel : Below w.heap.size w wr
structure NFix (w : World) (b0 ga m0 B2 cap n : Nat) : Prop where
 b : b0 < B2
 g : ga < B2
 m : m0 < B2
 b' : w.heap.size ≤ b0
 g' : w.heap.size ≤ ga
 m' : w.heap.size ≤ m0
 n : n ≤ cap
 nm : cap ≤ maxLen
 bg : b0 ≠ ga
 bm : b0 ≠ m0
 gm : ga ≠ m0
theorem nst_succ (l : List S56) (k : Nat) (h : k < l.length) : nst (l.take (k + 1)) = nstep (nst (l.take k)) (rd_T56 l (k : Int)) := by
 have e : rd_T56 l (k : Int) = l[k] := by
  unfold rd_T56
  rw [Int.toNat_natCast, List.getD_eq_getElem?_getD, List.getElem?_eq_getElem h]
  rfl
 unfold nst
 rw [List.take_succ_eq_append_getElem h, List.foldl_append, e]
 rfl
theorem nst_at_len : ∀ (l : List S56), (nst l).at_.length = l.length := by
 intro l
 unfold nst
 suffices h : ∀ (l : List S56) (s : NSt), (l.foldl nstep s).at_.length = s.at_.length + l.length by
  have := h l { known := fun _ => none, b := ⟨#[]⟩, at_ := [] }
  simpa using this
 intro l
 induction l with
 | nil => intro s; simp
 | cons k l ih =>
  intro s
  simp only [List.foldl_cons, ih, List.length_cons]
  unfold nstep
  split <;> simp <;> omega
theorem nroom_take (l : List S56) (k : Nat) (h : k < l.length) : nroom (l.take (k + 1)) = nroom (l.take k) + (rd_T56 l (k : Int)).f2.size + 1 := by
 have e : rd_T56 l (k : Int) = l[k] := by
  unfold rd_T56
  rw [Int.toNat_natCast, List.getD_eq_getElem?_getD, List.getElem?_eq_getElem h]
  rfl
 unfold nroom
 rw [List.take_succ_eq_append_getElem h, e, List.map_append, List.sum_append]
 simp
 omega
theorem nroom_le (l : List S56) (k : Nat) : nroom (l.take k) ≤ nroom l := by
 unfold nroom
 conv => rhs; rw [← List.take_append_drop k l, List.map_append, List.sum_append]
 omega
theorem nst_b_le (l : List S56) : (nst l).b.size ≤ nroom l := by
 unfold nst
 suffices h : ∀ (l : List S56) (s : NSt), (l.foldl nstep s).b.size ≤ s.b.size + nroom l by
  have := h l { known := fun _ => none, b := ⟨#[]⟩, at_ := [] }
  have e : (⟨#[]⟩ : ByteArray).size = 0 := rfl
  simp only [e] at this
  omega
 intro l
 induction l with
 | nil => intro s; simp [nroom]
 | cons k l ih =>
  intro s
  have h1 := ih (nstep s k)
  have h2 : nroom (k :: l) = k.f2.size + 1 + nroom l := by simp [nroom]
  simp only [List.foldl_cons]
  have h3 : (nstep s k).b.size ≤ s.b.size + (k.f2.size + 1) := by
   unfold nstep
   split
   ·
    simp
   ·
    simp [ByteArray.size_append]
    show _ ≤ _
    have : (⟨#[0]⟩ : ByteArray).size = 1 := rfl
    omega
  omega
theorem NInv.keep {n : Nat} {w wr w1 : World} {b0 ga m0 B2 cap j : Nat} {s : NSt} {p v : Value} {cur : Array Value} {D : DataW Unit} (h : NInv n w wr b0 ga m0 B2 cap s j p v cur D) (F : NFix w b0 ga m0 B2 cap n)
  (hk : Below wr.heap.size wr w1) : NInv n w w1 b0 ga m0 B2 cap s j p v cur D := by
 have hlt : ∀ i o, wr.heap[i]? = some o → i < wr.heap.size := fun i o hi => (Array.getElem?_eq_some_iff.1 hi).1
 have hm : ∀ i o, wr.heap[i]? = some o → w1.heap[i]? = some o := fun i o hi => (hk.block i (hlt i o hi)).trans hi
 obtain ⟨es, clock, hb', F', hs', hD'⟩ := h.hm
 exact ⟨hm _ _ h.hb, h.hp, Kd.R_step h.hv (fun i _ hi => hk.block i hi), hm _ _ h.hga, h.hcap, h.hat, ⟨es, clock, hm _ _ hb', F', hs', hD'⟩, h.hD, Nat.le_trans h.hB hk.size, h.hbel.trans (hk.mono h.hbel.size)⟩
theorem NInv.mapped {n : Nat} {w wr w1 : World} {b0 ga m0 B2 cap j : Nat} {s : NSt} {p v : Value} {cur : Array Value} {D : DataW Unit} (h : NInv n w wr b0 ga m0 B2 cap s j p v cur D) (F : NFix w b0 ga m0 B2 cap n)
  {S : ByteArray} {q : Nat} (hg : wr.grownBy w1 (some m0)) (hm : w1.ownsMap Try.prog 9 (plainElem Try.prog 3) m0 (j + 1) (D.put (.string S.data.toList) (.lit (.int .i64 q)))) :
  NInv n w w1 b0 ga m0 B2 cap { s with known := fun x => if x = S then some q else s.known x } (j + 1) p v cur (D.put (.string S.data.toList) (.lit (.int .i64 q))) := by
 have hlt : ∀ i o, wr.heap[i]? = some o → i < wr.heap.size := fun i o hi => (Array.getElem?_eq_some_iff.1 hi).1
 have hk : ∀ i o, i ≠ m0 → wr.heap[i]? = some o → w1.heap[i]? = some o := fun i o hne hi => (hg.block i (hlt i o hi) (by intro e; injection e with e; exact hne e)).trans hi
 have hM : Maps.IsMap D := h.hm.isMap
 refine ⟨hk _ _ F.bm h.hb, h.hp, ?_, hk _ _ F.gm h.hga, h.hcap, h.hat, hm, ?_, Nat.le_trans h.hB hg.size, h.hbel.grown hg h.hbel.size (fun i hi => by cases hi; exact F.m')⟩
 ·
  exact Kd.R_mono (Kd.R_step (Kd.R_mono (Kd.R_bound h.hv) (ok' := fun k => B2 ≤ k) (fun k hk => hk.2.1)) (fun i hi1 hi2 => hg.block i hi2 (by intro e; injection e with e; have := F.m; omega))) (fun _ _ => trivial)
 ·
  intro x
  by_cases e : x = S
  ·
   subst e
   refine ⟨?_, fun q' hq' => ?_⟩
   ·
    rw [Maps.has_put_same hM (show WideAt.IsKeyLit (.string _) from trivial)]; simp
   ·
    simp at hq'
    subst hq'
    exact Maps.atKey_put_same hM (show WideAt.IsKeyLit (.string _) from trivial) _ _
  ·
   have hne : Lit.string x.data.toList ≠ Lit.string S.data.toList := by
    intro h1
    injection h1 with h1
    exact e (by cases x; cases S; simp at h1; simp [h1])
   have h1 := h.hD x
   refine ⟨?_, fun q' hq' => ?_⟩
   ·
    rw [Maps.has_put_other hne]; simp [e, h1.1]
   ·
    simp [e] at hq'
    rw [Maps.atKey_put_other hne]
    exact h1.2 q' hq'
theorem NInv.written {n : Nat} {w wr w1 : World} {b0 ga m0 B2 cap j : Nat} {s : NSt} {p v : Value} {cur : Array Value} {D : DataW Unit} (h : NInv n w wr b0 ga m0 B2 cap s j p v cur D) (F : NFix w b0 ga m0 B2 cap n)
  {S : ByteArray} (hp : BldPost b0 B2 (bytesOf s.b ++ bytesOf S) wr w1) : ∃ v1, NInv n w w1 b0 ga m0 B2 cap { s with b := s.b ++ S } j (.pointer (some ⟨b0, 0, none⟩)) v1 cur D := by
 obtain ⟨v1, h1, h2, h3, h4, h5⟩ := hp
 obtain ⟨es, clock, hb', F', hs', hD'⟩ := h.hm
 refine ⟨v1, h1, .inr rfl, ?_, (h5 ga F.g (Ne.symm F.bg)).trans h.hga, h.hcap, h.hat, ⟨es, clock, (h5 m0 F.m (Ne.symm F.bm)).trans hb', F', hs', hD'⟩, h.hD, Nat.le_trans h.hB h3, h.hbel.trans (h4.mono F.b')⟩
 have e : bytesOf (s.b ++ S) = bytesOf s.b ++ bytesOf S := by simp [bytesOf]
 rw [e]
 exact h2
theorem NInv.stored {n : Nat} {w wr : World} {b0 ga m0 B2 cap j : Nat} {s : NSt} {p v : Value} {cur : Array Value} {D : DataW Unit} (h : NInv n w wr b0 ga m0 B2 cap s j p v cur D) (F : NFix w b0 ga m0 B2 cap n)
  {k : Nat} (hk : s.at_.length = k) (hkn : k < n) (x : Int) : NInv n w (wr.setCell ⟨ga, k, none⟩ (.int .u8 x)) b0 ga m0 B2 cap { s with at_ := s.at_ ++ [x] } j p v (cur.setIfInBounds k (.int .u8 x)) D := by
 have hs : ∀ i, i ≠ ga → (wr.setCell ⟨ga, k, none⟩ (.int .u8 x)).heap[i]? = wr.heap[i]? := fun i hi => Below.heap_setCell wr _ _ i hi
 obtain ⟨es, clock, hb', F', hs', hD'⟩ := h.hm
 refine ⟨(hs b0 F.bg).trans h.hb, h.hp, ?_, blk_put h.hga k _ rfl, by simp [h.hcap], ?_, ⟨es, clock, (hs m0 (Ne.symm F.gm)).trans hb', F', hs', hD'⟩, h.hD, by simpa using h.hB, h.hbel.setCell F.g' _⟩
 ·
  exact Kd.R_mono (Kd.R_step (Kd.R_mono (Kd.R_bound h.hv) (ok' := fun k => B2 ≤ k) (fun k hk => hk.2.1)) (fun i hi1 hi2 => hs i (by have := F.g; omega))) (fun _ _ => trivial)
 ·
  have hh := h.hat
  rw [Array.toList_setIfInBounds, List.take_set, hh]
  subst hk
  obtain ⟨d, hd⟩ : ∃ d, n - s.at_.length = d + 1 := ⟨n - s.at_.length - 1, by omega⟩
  have hd2 : n - (s.at_ ++ [x]).length = d := by simp; omega
  rw [hd]
  show List.set _ _ _ = nums .u8 ((s.at_ ++ [x]) ++ List.replicate (n - (s.at_ ++ [x]).length) 0)
  rw [hd2, List.replicate_succ]
  simp [nums]
theorem NInv.mono_j {n : Nat} {w wr : World} {b0 ga m0 B2 cap j : Nat} {s : NSt} {p v : Value} {cur : Array Value} {D : DataW Unit} (h : NInv n w wr b0 ga m0 B2 cap s j p v cur D) : NInv n w wr b0 ga m0 B2 cap s (j + 1) p v cur D :=
 ⟨h.hb, h.hp, h.hv, h.hga, h.hcap, h.hat, h.hm.mono (Nat.le_succ _), h.hD, h.hB, h.hbel⟩
theorem NInv.at_cell {n : Nat} {w wr : World} {b0 ga m0 B2 cap j : Nat} {s : NSt} {p v : Value} {cur : Array Value} {D : DataW Unit} (h : NInv n w wr b0 ga m0 B2 cap s j p v cur D) {k : Nat} (hk : s.at_.length = k) (hkn : k < n) :
  wr.cell? ⟨ga, k, none⟩ = some (.int .u8 0) := by
 rw [Lib.cell_of_heap h.hga]
 have h1 : (cur.toList.take n)[k]? = some (.int .u8 0) := by
  rw [h.hat]
  subst hk
  obtain ⟨d, hd⟩ : ∃ d, n - s.at_.length = d + 1 := ⟨n - s.at_.length - 1, by omega⟩
  rw [hd, List.replicate_succ]
  simp [nums]
 rw [List.getElem?_take, if_pos hkn] at h1
 simpa using h1
theorem NInv.fin {n : Nat} {w wr w1 : World} {b0 ga m0 B2 cap j : Nat} {s : NSt} {p v : Value} {cur : Array Value} {D : DataW Unit} (h : NInv n w wr b0 ga m0 B2 cap s j p v cur D) (F : NFix w b0 ga m0 B2 cap n) (hn : s.at_.length = n)
  (hp : StrPost B2 wr w1) : Kd.R (Kd.int .u8) 5 w1 w.heap.size (fun _ => True) (.slice (some ⟨ga, 0, none⟩) n cap) s.at_ ∧ Below w.heap.size w w1 := by
 obtain ⟨g, m, hg, rfl⟩ := hp
 have hlt : ga ≠ g := by have := F.g; omega
 have h1 : (wr.drew.freeze ⟨g, 0, none⟩ m).heap[ga]? = some (.cells cur 5 (0, 0)) :=
  ((Lib.below_freeze (B := B2) ((Below.refl B2 wr).drew) (p := ⟨g, 0, none⟩) hg m).block ga F.g).trans h.hga
 refine ⟨?_, Lib.below_freeze (h.hbel.drew) (p := ⟨g, 0, none⟩) (Nat.le_trans F.b' (Nat.le_trans (Nat.le_of_lt F.b) hg)) m⟩
 subst hn
 have hh := h.hat
 rw [Nat.sub_self] at hh
 simp only [List.replicate_zero, List.append_nil] at hh
 exact Kd.R_of_own (h1 := fun _ => rfl) (ok := fun _ => True) (show World.ownsRow _ _ _ _ _ _ _ from ⟨by simp [nums, encs], .inr ⟨ga, cap, cur, rfl, F.g', h1, F.n, F.nm, by rw [h.hcap]; omega, by rw [Nat.mul_one]; exact hh⟩⟩) (fun _ _ => trivial)
theorem nst_b_pos (l : List S56) (h : l ≠ []) : (nst l).b.size ≠ 0 := by
 cases l with
 | nil => exact absurd rfl h
 | cons k l =>
  have hm : ∀ (l : List S56) (s : NSt), s.b.size ≤ (l.foldl nstep s).b.size := by
   intro l
   induction l with
   | nil => intro s; simp
   | cons k l ih =>
    intro s
    refine Nat.le_trans ?_ (ih (nstep s k))
    unfold nstep
    split
    ·
     simp
    ·
     simp [ByteArray.size_append]
  have h1 := hm l (nstep { known := fun _ => none, b := ⟨#[]⟩, at_ := [] } k)
  have h2 : (nstep { known := fun _ => none, b := ⟨#[]⟩, at_ := [] } k).b.size = k.f2.size + 1 := by
   simp [nstep, ByteArray.size_append]
   have : (⟨#[0]⟩ : ByteArray).size = 1 := rfl
   have : (⟨#[]⟩ : ByteArray).size = 0 := rfl
   omega
  unfold nst
  simp only [List.foldl_cons]
  omega
set_option maxHeartbeats 2000000 in
set_option maxRecDepth 100000 in
theorem block_names.calls (A0 : Option Addr) (c0 : Nat) (l0 : List S56) (r1 : ByteArray) (r2 : List Int) (w : World) (hr0 : Kd.C k56 w A0 l0.length l0) (hc0 : l0.length ≤ c0) (h : block_names.f l0 = some (r1, r2)) :
  Calls Try.prog 43 #[.slice A0 l0.length c0] w fun e w' => ∃ v1_ : Value, e = .returned (.tuple #[.string r1, v1_]) ∧ Kd.R (Kd.int .u8) 5 w' w.heap.size (fun _ => True) v1_ r2 ∧ Below w.heap.size w w' := by
 have hn := hr0.2.1
 unfold block_names.f at h
 by_cases hin : l0 ≠ [] ∧ nroom l0 ≤ 140737488355328 ∧ l0.length ≤ 140737488355328
 case neg => rw [if_neg hin] at h; exact absurd h (by simp)
 rw [if_pos hin] at h
 obtain ⟨hne, hroom, hlen⟩ := hin
 have HR0 := Aside0.mk hr0
 have HE := Aside0.mk h
 have HNE := Aside0.mk hne
 have HROOM := Aside0.mk hroom
 have hmm := @run_makeMap Try.prog
 clear hr0 hc0 h hne hroom
 go_enter Try.func43, Try.ntmps43
 go_wp2_with (first
  | ((with_reducible refine gate_dst (N := 4) rfl ?_); refine box_event ?hg (N := 4) ?hd (cs := #[.pointer none, .slice none 0 0]) (t := 126) ?hr ?_; (case hd => rfl); (case hg => rfl); (case hr => first | (go_simp; done) | (go_simp; rfl)); intro b0 hg0 w1 hbox hb1; have HG0 := Aside0.mk hg0; have HBOX := Aside0.mk hbox; have HB1 := Aside0.mk hb1; clear hg0 hbox hb1)
  | ((with_reducible refine gate_dst (N := 13) rfl ?_); refine Kd.R_make (Kd.int .u8) w1.heap.size 5 rfl (N := 13) rfl 33 _ _ rfl (l0.length : Int) rfl rfl Try.underlying33 (.int .u8 0) 1 info5 rfl (by decide) (by omega) 0 (ok := fun _ => True) (okp := fun _ => False) rfl (fun _ h => h.elim) trivial (by omega) (by omega) (Below.refl _ _) (Nat.le_refl _) ?_; intro v13 w2 ho hb2 hg2 hown; have HO := Aside0.mk ho; have HB2 := Aside0.mk hb2; clear ho hb2 hg2 hown))
 obtain ⟨ga, cap, cur0, rfl, hgb, hga, hncap, hcm, hcs, htk⟩ : ∃ g cap cur, v13 = .slice (some ⟨g, 0, none⟩) l0.length cap ∧ w1.heap.size ≤ g ∧ w2.heap[g]? = some (.cells cur 5 (0, 0)) ∧ l0.length ≤ cap ∧ cap ≤ maxLen ∧ cur.size = cap ∧ cur.toList.take l0.length = nums .u8 (List.replicate l0.length 0) := by
  have h := (Kd.own_of_R HO.out)
  rw [Int.toNat_natCast, List.length_replicate] at h
  rcases h.2 with ⟨_, h0⟩ | ⟨g, cap, cur, h1, h2, h3, h4, h5, h6, h7⟩
  ·
   exact absurd (List.length_eq_zero_iff.1 h0) HNE.out
  ·
   exact ⟨g, cap, cur, h1, h2, h3, h4, h5, by omega, by simpa [encs, nums] using h7⟩
 obtain ⟨m0, hm0⟩ : ∃ m0, m0 = w2.heap.size := ⟨_, rfl⟩
 have hb1 := HB1.out
 have hb2 := HB2.out
 have hbx := HBOX.out
 have hlt1 : b0 < w1.heap.size := (Array.getElem?_eq_some_iff.1 hbx).1
 have hlt2 : ga < w2.heap.size := (Array.getElem?_eq_some_iff.1 hga).1
 have hs1 := hb1.size
 have hs2 := hb2.size
 have hg0 := HG0.out
 have HF : Aside0 (NFix w b0 ga m0 (m0 + 1) cap l0.length) := ⟨⟨by omega, by omega, by omega, by omega, by omega, by omega, hncap, hcm, by omega, by omega, by omega⟩⟩
 have HI : Aside0 (NInv l0.length w (w2.alloc (.map #[] 0)) b0 ga m0 (m0 + 1) cap (nst []) 0 (.pointer none) (.slice none 0 0) cur0 (.map [])) := by
  have hbl : Below w.heap.size w w2 := hb1.trans (hb2.mono hs1)
  have ha : ∀ i, i < w2.heap.size → (w2.alloc (.map #[] 0)).heap[i]? = w2.heap[i]? := fun i hi => (World.grownBy_alloc w2 _ none).block i hi (by simp)
  refine ⟨⟨(ha b0 (by omega)).trans ((hb2.block b0 hlt1).trans hbx), .inl rfl, Kd.R_nil _ _ _ _ _, (ha ga hlt2).trans hga, hcs, ?_, ?_, ?_, ?_, hbl.alloc hbl.size _⟩⟩
  ·
   simpa [nst] using htk
  ·
   rw [hm0]; exact World.ownsMap_made _ _ _ _
  ·
   intro x
   refine ⟨by simp [Maps.has, nst], fun q hq => by simp [nst] at hq⟩
  ·
   simp [hm0]
 have HHG := Aside0.mk hga
 have HM0 := Aside0.mk hm0
 clear HO HB2 HB1 HBOX HG0 hgb hga hncap hcm hcs htk hmm hb1 hb2 hbx hlt1 hlt2 hs1 hs2 hg0
 rw [← HM0.out]
 clear hm0 HM0 HHG
 go_loopw [17] (fun i wr => ∃ k : Nat, k ≤ l0.length ∧ i = .int .i64 k ∧ ∃ p v cur D, Aside0 (NInv l0.length w wr b0 ga m0 (m0 + 1) cap (nst (l0.take k)) k p v cur D)) (fun i _ => l0.length - (intOf i).toNat)
 case atStart => exact ⟨0, Nat.zero_le _, rfl, _, _, _, _, ⟨by rw [List.take_zero]; exact HI.out⟩⟩
 case round =>
  clear HI
  obtain ⟨k, hk, rfl, p, v, cur, D, HI⟩ := hrel
  by_cases hlt : k < l0.length
  ·
   obtain ⟨ad, rfl, hx0, hx1, hx2⟩ := at_T56 HR0.out (k : Int) (by omega) (by omega)
   rw [Int.toNat_natCast] at hx0 hx1 hx2
   replace hx0 := (HI.out.hbel.cell (World.block_lt_of_cell? w _ hx0)).trans hx0
   replace hx1 := (HI.out.hbel.cell (World.block_lt_of_cell? w _ hx1)).trans hx1
   replace hx2 := (HI.out.hbel.cell (World.block_lt_of_cell? w _ hx2)).trans hx2
   go_upto_region 6 with (first
    | ((with_reducible refine gate_dst (N := 8) rfl ?_); refine box_event ?hg8 (N := 8) ?hd8 (cs := #[.int .i64 0, .bool false, .string ⟨#[]⟩]) (t := 56) ?hr8 ?_; (case hd8 => rfl); (case hg8 => rfl); (case hr8 => first | (go_simp; done) | (go_simp; rfl)); intro g8 hg8 w3 hbox8 hb8; have HG8 := Aside0.mk hg8; have HBOX8 := Aside0.mk hbox8; have HB8 := Aside0.mk hb8; have cz0 : w3.cell? ⟨g8, 0, none⟩ = some (.int .i64 0) := (by rw [Lib.cell_of_heap hbox8]; rfl); have cz1 : w3.cell? ⟨g8, 1, none⟩ = some (.bool false) := (by rw [Lib.cell_of_heap hbox8]; rfl); have cz2 : w3.cell? ⟨g8, 2, none⟩ = some (.string ⟨#[]⟩) := (by rw [Lib.cell_of_heap hbox8]; rfl); have fz0 : w3.frozen? ⟨g8, 0, none⟩ = false := (by simp [World.frozen?, hbox8]); have fz1 : w3.frozen? ⟨g8, 1, none⟩ = false := (by simp [World.frozen?, hbox8]); have fz2 : w3.frozen? ⟨g8, 2, none⟩ = false := (by simp [World.frozen?, hbox8]); clear hg8 hbox8 hb8))
   have hK : Below wr.heap.size wr (((w3.setCell ⟨g8, 0, none⟩ (.int .i64 (rd_T56 l0 (k : Int)).f0)).setCell ⟨g8, 1, none⟩ (.bool (rd_T56 l0 (k : Int)).f1)).setCell ⟨g8, 2, none⟩ (.string (rd_T56 l0 (k : Int)).f2)) :=
    ((HB8.out.setCell (by rw [HG8.out]; exact Nat.le_refl _) _).setCell (by rw [HG8.out]; exact Nat.le_refl _) _).setCell (by rw [HG8.out]; exact Nat.le_refl _) _
   have HI4 := Aside0.mk (HI.out.keep HF.out hK)
   have HBK := Aside0.mk (blk_put (blk_put (blk_put HBOX8.out 0 (.int .i64 (rd_T56 l0 (k : Int)).f0) rfl) 1 (.bool (rd_T56 l0 (k : Int)).f1) rfl) 2 (.string (rd_T56 l0 (k : Int)).f2) rfl)
   have HST := Aside0.mk (nst_succ l0 k hlt)
   have HRM := Aside0.mk (nroom_take l0 k hlt)
   have HRL := Aside0.mk (nroom_le l0 (k + 1))
   have HBL := Aside0.mk (nst_b_le (l0.take k))
   clear hK hx0 hx1 hx2 cz0 cz1 cz2 fz0 fz1 fz2 HBOX8 HB8
   generalize (((w3.setCell ⟨g8, 0, none⟩ (.int .i64 (rd_T56 l0 (k : Int)).f0)).setCell ⟨g8, 1, none⟩ (.bool (rd_T56 l0 (k : Int)).f1)).setCell ⟨g8, 2, none⟩ (.string (rd_T56 l0 (k : Int)).f2)) = w4 at HI4 HBK ⊢
   have hg8m : m0 + 1 ≤ g8 := by rw [HG8.out]; exact HI.out.hB
   generalize (rd_T56 l0 (k : Int)) = X at HBK HST HRM ⊢
   have c8 : w4.cell? ⟨g8, 2, none⟩ = some (.string X.f2) := by rw [Lib.cell_of_heap HBK.out]; rfl
   have hsz : X.f2.size ≤ maxLen := by have h1 := HRM.out; have h2 := HRL.out; have h3 := HROOM.out; unfold maxLen; omega
   have hDS := HI4.out.hD X.f2
   have HSZ := Aside0.mk hsz
   clear hsz
   have HLEN := Aside0.mk (show (nst (l0.take k)).at_.length = k by rw [nst_at_len, List.length_take]; omega)
   have hncap := HF.out.n
   have hcm := HF.out.nm
   rcases hkn : (nst (l0.take k)).known X.f2 with _ | q
   ·
    have hhas : Maps.has D (.string X.f2.data.toList) = false := by rw [hDS.1, hkn]; rfl
    have HKN := Aside0.mk hkn
    clear hDS hkn
    obtain ⟨Av, cv, rfl⟩ := Kd.R_slice HI4.out.hv
    have hLb : (bytesOf (nst (l0.take k)).b).length = (nst (l0.take k)).b.size := bytesOf_length _
    have hbz : (nst (l0.take k)).b.size + (X.f2.size + 1) ≤ 140737488355328 := by have h1 := HRM.out; have h2 := HRL.out; have h3 := HROOM.out; have h4 := HBL.out; omega
    have hbz1 : X.f2.size + 1 ≤ 9223372036854775807 := by omega
    have HBZ := Aside0.mk hbz
    have HLB := Aside0.mk hLb
    have WFb : (Lit.int .i64 ((bytesOf (nst (l0.take k)).b).length : Int)).wf = true := WalkArith.wf_i64 (by omega)
    clear hLb hbz
    have hk2 : k + 1 ≤ maxLen := by unfold maxLen; omega
    go_wp2_with (first
     | (at_lookup; refine wpList_lookup_own_ok_int _ rfl _ _ 127 rfl 9 3 .i64 nlaw Try.underlying127 Try.underlying3 (zero3 _) m0 k D rfl HI4.out.hm _ _ rfl (keyOf_string_mk Try.underlying9 HSZ.out) ?_; intro c hat hwc; clear hat hwc)
     | (go_at_call 72; refine (bld_Len _ _ _ _ _ _ HI4.out.hb).mono ?_; rintro e w5 ⟨rfl, rfl⟩)
     | (at_mapUpdate; refine wpList_mapUpdate_own _ rfl _ _ _ 127 rfl 9 3 nlaw Try.underlying127 (plainElem Try.prog 3) m0 k D rfl HI4.out.hm (by omega) _ _ _ rfl rfl (keyOf_string_mk Try.underlying9 HSZ.out) _ [] (plainElem_int Try.underlying3 WFb) ?_; intro w5 hown5 hgrow5; rw [HLB.out] at hown5; have HI5 := Aside0.mk (HI4.out.mapped HF.out hgrow5 hown5); have c85 : w5.cell? ⟨g8, 2, none⟩ = some (.string X.f2) := (by rw [Lib.cell_of_heap ((hgrow5.block g8 (Array.getElem?_eq_some_iff.1 HBK.out).1 (by intro e; injection e with e; omega)).trans HBK.out)]; rfl); clear hown5 hgrow5)
     | (go_at_call 73; refine (bld_Write b0 (m0 + 1) p _ _ _ _ HI5.out.hb HI5.out.hp HI5.out.hv HI5.out.hB HF.out.b (by rw [HLB.out]; simp only [ByteArray.size_append]; exact HBZ.out)).mono ?_; rintro e w6 ⟨rfl, hpost⟩; obtain ⟨v6, HI6'⟩ := HI5.out.written HF.out hpost; have HI6 := Aside0.mk HI6'; have cga : w6.cell? ⟨ga, k, none⟩ = some (.int .u8 0) := (HI6'.at_cell HLEN.out hlt); have fga : w6.frozen? ⟨ga, k, none⟩ = false := (by simp [World.frozen?, HI6'.hga]); clear HI6' hpost))
    go_roundw
    case rel =>
     rw [HLB.out]
     refine ⟨k + 1, by omega, by go_num, .pointer (some ⟨b0, 0, none⟩), v6, cur.setIfInBounds k (.int .u8 (((nst (l0.take k)).b.size : Int) % 256)), D.put (.string X.f2.data.toList) (.lit (.int .i64 ((nst (l0.take k)).b.size : Nat))), ⟨?_⟩⟩
     have h1 := HI6.out.stored HF.out HLEN.out hlt (((nst (l0.take k)).b.size : Int) % 256)
     rw [HST.out]
     unfold nstep
     rw [HKN.out]
     exact h1
    case measure => simp [intOf]; omega
   ·
    have hhas : Maps.has D (.string X.f2.data.toList) = true := by rw [hDS.1, hkn]; rfl
    have HQ := Aside0.mk (hDS.2 q hkn)
    have HKN := Aside0.mk hkn
    have cga : w4.cell? ⟨ga, k, none⟩ = some (.int .u8 0) := HI4.out.at_cell HLEN.out hlt
    have fga : w4.frozen? ⟨ga, k, none⟩ = false := by simp [World.frozen?, HI4.out.hga]
    clear hDS hkn
    go_wp2_with (first | (at_lookup; (refine wpList_lookup_own_ok_int _ rfl _ _ 127 rfl 9 3 .i64 nlaw Try.underlying127 Try.underlying3 (zero3 _) m0 k D rfl HI4.out.hm _ _ rfl (keyOf_string_mk Try.underlying9 HSZ.out) ?_; intro c hat hwc; (obtain rfl : c = (q : Int) := by have h1 := HQ.out.symm.trans hat; simp at h1; exact h1.symm); clear hat hwc)))
    go_roundw
    case rel =>
     refine ⟨k + 1, by omega, by go_num, p, v, cur.setIfInBounds k (.int .u8 ((q : Int) % 256)), D, ⟨?_⟩⟩
     have h1 := (HI4.out.stored HF.out HLEN.out hlt ((q : Int) % 256)).mono_j
     rw [HST.out]
     unfold nstep
     rw [HKN.out]
     exact h1
    case measure => simp [intOf]; omega
  ·
   obtain rfl : k = l0.length := by omega
   rw [List.take_length] at HI
   have hsz : (nst l0).b.size ≠ 0 := nst_b_pos l0 HNE.out
   have HSZ := Aside0.mk hsz
   clear hsz
   go_wp2_with (go_at_call 74; refine (bld_String b0 (m0 + 1) p v (nst l0).b _ HI.out.hb HI.out.hv HSZ.out).mono ?_; rintro e w5 ⟨rfl, hp5⟩)
   go_ret2
   have h := HE.out
   simp only [Option.some.injEq, Prod.mk.injEq] at h
   obtain ⟨rfl, rfl⟩ := h
   exact ⟨_, rfl, HI.out.fin HF.out (nst_at_len l0) hp5⟩
end Go.Proofs.Ytdcgclhmfflheaa.PQ
