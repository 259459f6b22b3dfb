import Derived.Test.YtdcgclhmfflheaaXbwLenc
namespace Go.Proofs.Ytdcgclhmfflheaa.PQ
open Go.RowKit Go.Proofs.YtdcgclhmfflheaaW.PrintWords Go.Proofs.YtdcgclhmfflheaaW.PrintMore
set_option linter.unusedVariables false
set_option linter.unusedSimpArgs false
theorem numI_be8 (x : Int) (h : -9223372036854775808 ≤ x ∧ x ≤ 9223372036854775807) : numI (be 8 x) = x := by
 have hb := be_bytes 8 x
 have hu : octets_Uint.f (be 8 x) 0 8 = some (beU (be 8 x), true) := by
  unfold octets_Uint.f
  rw [if_pos (by rw [be_length]; omega)]
  have e : ((be 8 x).take ((0 : Int) + 8).toNat).drop (0 : Int).toNat = be 8 x := rfl
  rw [e, if_pos hb]
 have hn : beU (be 8 x) = x % 18446744073709551616 := by
  simp only [be, beU, List.foldl_cons, List.foldl_nil, Int.reducePow]
  omega
 unfold numI numF
 rw [be_length]
 show ((octets_Int.f (be 8 x) 0 8).map Prod.fst).getD 0 = x
 unfold octets_Int.f
 rw [hu, Option.bind_some, if_pos rfl]
 have e0 : wrap64 (8 * wrap64 (8 - 8)) = 0 := by unfold wrap64; rfl
 rw [e0, if_pos (by omega), hn]
 show shr .i64 (wrap64 (shl .u64 (x % 18446744073709551616) 0)) 0 = x
 have e1 : shl .u64 (x % 18446744073709551616) 0 = x % 18446744073709551616 := by
  unfold shl
  rw [u64_wrap]
  simp
 have e2 : ∀ y, shr .i64 y 0 = y := fun y => by unfold shr; simp
 rw [e1, e2]
 unfold wrap64
 omega
theorem numI_be4 (x : Int) (h : -2147483648 ≤ x ∧ x ≤ 2147483647) : numI (be 4 x) = x := by
 have hb := be_bytes 4 x
 have hu : octets_Uint.f (be 4 x) 0 4 = some (beU (be 4 x), true) := by
  unfold octets_Uint.f
  rw [if_pos (by rw [be_length]; omega)]
  have e : ((be 4 x).take ((0 : Int) + 4).toNat).drop (0 : Int).toNat = be 4 x := rfl
  rw [e, if_pos hb]
 have hn : beU (be 4 x) = x % 4294967296 := by
  simp only [be, beU, List.foldl_cons, List.foldl_nil, Int.reducePow]
  omega
 unfold numI numF
 rw [be_length]
 show ((octets_Int.f (be 4 x) 0 4).map Prod.fst).getD 0 = x
 unfold octets_Int.f
 rw [hu, Option.bind_some, if_pos rfl]
 have e0 : wrap64 (8 * wrap64 (8 - 4)) = 32 := by unfold wrap64; rfl
 rw [e0, if_pos (by omega), hn]
 show shr .i64 (wrap64 (shl .u64 (x % 4294967296) 32)) 32 = x
 have e1 : shl .u64 (x % 4294967296) 32 = (x % 4294967296) * 4294967296 := by
  unfold shl
  rw [u64_wrap]
  have : (2 : Int) ^ min (32 : Int).toNat IntKind.u64.bits = 4294967296 := by decide
  rw [this]
  omega
 have e2 : ∀ y, shr .i64 y 32 = y / 4294967296 := fun y => by
  unfold shr
  have : (2 : Int) ^ min (32 : Int).toNat IntKind.i64.bits = 4294967296 := by decide
  rw [this]
 rw [e1, e2]
 unfold wrap64
 omega
def fitB (sz : Nat) (x : Int) : Prop := (sz = 8 ∧ -9223372036854775808 ≤ x ∧ x ≤ 9223372036854775807) ∨ (sz = 4 ∧ -2147483648 ≤ x ∧ x ≤ 2147483647)
theorem numI_be (sz : Nat) (x : Int) (h : fitB sz x) : numI (be sz x) = x := by
 rcases h with ⟨rfl, h⟩ | ⟨rfl, h⟩
 ·
  exact numI_be8 x h
 ·
  exact numI_be4 x h
theorem flat_drop {α : Type} (f : α → List Int) (n : Nat) (h : ∀ x, (f x).length = n) (R : List Int) : ∀ (l : List α) (i : Nat) (hi : i < l.length), ∃ R', (l.flatMap f ++ R).drop (n * i) = f l[i] ++ R'
 | [], i, hi => by simp at hi
 | x :: l, 0, _ => ⟨l.flatMap f ++ R, by simp⟩
 | x :: l, i + 1, hi => by
  obtain ⟨R', hR⟩ := flat_drop f n h R l i (by simpa using hi)
  refine ⟨R', ?_⟩
  rw [List.flatMap_cons, List.append_assoc, show n * (i + 1) = (f x).length + n * i by rw [h, Nat.mul_succ]; omega, ← List.drop_drop, List.drop_left]
  exact hR
theorem kBs_drop (R : List Int) : ∀ (K : List S56) (A : List Int) (i : Nat) (hA : A.length = K.length) (hi : i < K.length), ∃ R', (kBs K A ++ R).drop (6 * i) = kB K[i] (A[i]'(by omega)) ++ R'
 | [], _, i, _, hi => by simp at hi
 | k :: K, [], i, hA, hi => by simp at hA
 | k :: K, a :: A, 0, _, _ => ⟨kBs K A ++ R, by simp [kBs]⟩
 | k :: K, a :: A, i + 1, hA, hi => by
  obtain ⟨R', hR⟩ := kBs_drop R K A i (by simpa using hA) (by simpa using hi)
  refine ⟨R', ?_⟩
  have hk : (kB k a).length = 6 := by unfold kB; rw [List.length_append, be_length]; rfl
  show (kB k a ++ kBs K A ++ R).drop (6 * (i + 1)) = _
  rw [List.append_assoc, show 6 * (i + 1) = (kB k a).length + 6 * i by rw [hk]; omega, ← List.drop_drop, List.drop_left]
  exact hR
theorem take_be (n : Nat) (x : Int) (R : List Int) : (be n x ++ R).take n = be n x := by
 exact List.take_left' (be_length n x)
theorem range_map_eq {α : Type} (l : List α) (f : Nat → α) (h : ∀ i (hi : i < l.length), f i = l[i]) : (List.range l.length).map f = l := by
 apply List.ext_getElem (by simp)
 intro i h1 h2
 simp only [List.getElem_map, List.getElem_range]
 exact h i h2
theorem getD_drop (l : List Int) (m j : Nat) (d : Int) : l.getD (m + j) d = (l.drop m).getD j d := by
 simp [List.getD_eq_getElem?_getD, List.getElem?_drop]
theorem indexByte_none {l : List UInt8} {c : UInt8} (h : Lib.indexByte l c = -1) (r : List UInt8) : Lib.indexByte (l ++ c :: r) c = (l.length : Int) := by
 induction l with
 | nil => simp [Lib.indexByte]
 | cons b l ih =>
  rw [List.cons_append]
  unfold Lib.indexByte at h ⊢
  have hge := Lib.indexByte_ge l c
  by_cases hb : (b == c) = true
  ·
   rw [if_pos hb] at h; omega
  ·
   rw [if_neg hb] at h ⊢
   by_cases h1 : (Lib.indexByte l c == -1) = true
   ·
    have h2 : Lib.indexByte l c = -1 := by simpa using h1
    rw [ih h2]
    have : ((l.length : Int) == -1) = false := by simp
    rw [this]
    simp
   ·
    rw [if_neg h1] at h
    have h3 : ¬ Lib.indexByte l c = -1 := by simpa using h1
    omega
theorem libBytes_of (s : ByteArray) : Lib.bytesOf (bytesOf s) = s.data.toList := by
 unfold Lib.bytesOf bytesOf
 rw [List.map_map]
 conv => rhs; rw [← List.map_id s.data.toList]
 apply List.map_congr_left
 intro x _
 simp
theorem libBytes_append (a b : List Int) : Lib.bytesOf (a ++ b) = Lib.bytesOf a ++ Lib.bytesOf b := by unfold Lib.bytesOf; rw [List.map_append]
theorem strOfNums_of (s : ByteArray) : strOfNums (bytesOf s) = s := by
 apply ByteArray.ext
 apply Array.toList_inj.1
 have h := Lib.strOfNums_toList (bytesOf s)
 rw [libBytes_of] at h
 rw [← h]
 first
  | rfl
  | (rw [Lib.toList_data])
theorem dName_at (names pre : List Int) (s : ByteArray) (rest : List Int) (hn : names = pre ++ (bytesOf s ++ 0 :: rest)) (hs : hasNul s = false) : dName names (pre.length : Int) = (s, true) := by
 have hi : Lib.indexByte s.data.toList 0 = -1 := by
  have h1 : ¬ (0 ≤ Lib.indexByte s.data.toList 0) := by unfold hasNul at hs; simpa using hs
  have := Lib.indexByte_ge s.data.toList 0
  omega
 have hd : names.drop pre.length = bytesOf s ++ 0 :: rest := by rw [hn, List.drop_left]
 have hx : Lib.indexByte (Lib.bytesOf (names.drop pre.length)) 0 = (s.size : Int) := by
  rw [hd, libBytes_append, libBytes_of]
  show Lib.indexByte (s.data.toList ++ (0 : UInt8) :: Lib.bytesOf rest) 0 = _
  rw [indexByte_none hi, data_length]
 have hl : pre.length ≤ names.length := by rw [hn, List.length_append]; omega
 unfold dName octets_Name.f
 rw [if_pos (by omega), Int.toNat_natCast, hx, if_pos (by omega), Int.toNat_natCast, hd]
 have : (bytesOf s ++ 0 :: rest).take s.size = bytesOf s := by
  exact List.take_left' (bytesOf_length s)
 rw [this, strOfNums_of]
 rfl
theorem bytesOf_append (a b : ByteArray) : bytesOf (a ++ b) = bytesOf a ++ bytesOf b := by simp [bytesOf]
def NameAt (b : ByteArray) (n : ByteArray) (p : Nat) : Prop := ∃ pre rest, bytesOf b = pre ++ (bytesOf n ++ 0 :: rest) ∧ pre.length = p
theorem NameAt.more {b n : ByteArray} {p : Nat} (h : NameAt b n p) (c : ByteArray) : NameAt (b ++ c) n p := by
 obtain ⟨pre, rest, h1, h2⟩ := h
 exact ⟨pre, rest ++ bytesOf c, by rw [bytesOf_append, h1]; simp, h2⟩
theorem NameAt.new (b n : ByteArray) : NameAt (b ++ (n ++ ⟨#[0]⟩)) n b.size := ⟨bytesOf b, [], by rw [bytesOf_append, bytesOf_append]; rfl, bytesOf_length b⟩
structure NstOk (K : List S56) (s : NSt) : Prop where
 known : ∀ n p, s.known n = some p → NameAt s.b n p
 len : s.at_.length = K.length
 at_ : ∀ i (hi : i < K.length), ∃ p : Nat, s.at_.getD i 0 = (p : Int) % 256 ∧ NameAt s.b K[i].f2 p
theorem nst_snoc (K : List S56) (k : S56) : nst (K ++ [k]) = nstep (nst K) k := by unfold nst; rw [List.foldl_append]; rfl
theorem NstOk.step {K : List S56} {s : NSt} (h : NstOk K s) (k : S56) : NstOk (K ++ [k]) (nstep s k) := by
 unfold nstep
 cases hk : s.known k.f2 with
 | some p =>
  refine ⟨h.known, by simp [h.len], fun i hi => ?_⟩
  rcases Nat.lt_or_ge i K.length with hlt | hge
  ·
   obtain ⟨q, h1, h2⟩ := h.at_ i hlt
   refine ⟨q, ?_, by rw [List.getElem_append_left hlt]; exact h2⟩
   rw [← h1]
   simp only [List.getD_eq_getElem?_getD]
   rw [List.getElem?_append_left (by rw [h.len]; exact hlt)]
  ·
   have hi' : i = K.length := by simp at hi; omega
   subst hi'
   refine ⟨p, ?_, by simp; exact h.known _ _ hk⟩
   simp [List.getD_eq_getElem?_getD, ← h.len]
 | none =>
  refine ⟨fun n p hn => ?_, by simp [h.len], fun i hi => ?_⟩
  ·
   have hn : (if n = k.f2 then some s.b.size else s.known n) = some p := hn
   by_cases e : n = k.f2
   ·
    rw [if_pos e] at hn
    injection hn with hn
    subst hn
    rw [e]
    exact NameAt.new _ _
   ·
    rw [if_neg e] at hn
    exact (h.known n p hn).more _
  ·
   rcases Nat.lt_or_ge i K.length with hlt | hge
   ·
    obtain ⟨q, h1, h2⟩ := h.at_ i hlt
    refine ⟨q, ?_, by rw [List.getElem_append_left hlt]; exact h2.more _⟩
    rw [← h1]
    simp only [List.getD_eq_getElem?_getD]
    rw [List.getElem?_append_left (by rw [h.len]; exact hlt)]
   ·
    have hi' : i = K.length := by simp at hi; omega
    subst hi'
    refine ⟨s.b.size, ?_, by simp; exact NameAt.new _ _⟩
    simp [List.getD_eq_getElem?_getD, ← h.len]
theorem nst_ok : ∀ K : List S56, NstOk K (nst K) := by
 intro K
 have h : ∀ n, n ≤ K.length → NstOk (K.take n) (nst (K.take n)) := by
  intro n
  induction n with
  | zero => intro _; exact ⟨fun n p h => by simp [nst] at h, rfl, fun i hi => by simp at hi⟩
  | succ n ih =>
   intro hn
   have h := (ih (by omega)).step K[n]
   rw [← nst_snoc, ← List.take_succ_eq_append_getElem hn] at h
   exact h
 have h := h K.length (Nat.le_refl _)
 rwa [List.take_length] at h
theorem nst_name (K : List S56) (hb : (nst K).b.size ≤ 256) (i : Nat) (hi : i < K.length) (hn : hasNul K[i].f2 = false) : 0 ≤ (nst K).at_.getD i 0 ∧ (nst K).at_.getD i 0 < 256 ∧ dName (bytesOf (nst K).b) ((nst K).at_.getD i 0) = (K[i].f2, true) := by
 obtain ⟨p, h1, pre, rest, h2, h3⟩ := (nst_ok K).at_ i hi
 have hl : pre.length < 256 := by
  have h4 := congrArg List.length h2
  rw [bytesOf_length] at h4
  simp at h4
  omega
 have hp : (p : Int) % 256 = (pre.length : Int) := by omega
 rw [h1, hp]
 exact ⟨by omega, by omega, dName_at _ pre _ rest h2 hn⟩
end Go.Proofs.Ytdcgclhmfflheaa.PQ
