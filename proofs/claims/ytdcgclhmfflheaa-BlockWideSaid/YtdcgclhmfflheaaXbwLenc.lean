import Derived.Test.YtdcgclhmfflheaaXbwPQf21
import Derived.Test.YtdcgclhmfflheaaXbwLright
import Derived.Test.YtdcgclhmfflheaaXbwPQf78
import Derived.Test.YtdcgclhmfflheaaXbwFdec
namespace Go.Proofs.Ytdcgclhmfflheaa.PQ
open Go.RowKit Go.Proofs.YtdcgclhmfflheaaW.PrintWords Go.Proofs.YtdcgclhmfflheaaW.PrintMore
set_option linter.unusedVariables false
set_option linter.unusedSimpArgs false
def be : Nat → Int → List Int
 | 0, _ => []
 | n + 1, x => (x / 256 ^ n) % 256 :: be n x
theorem be_length : ∀ (n : Nat) (x : Int), (be n x).length = n
 | 0, _ => rfl
 | n + 1, x => by simp [be, be_length n x]
theorem be_bytes : ∀ (n : Nat) (x : Int), bytesOk (be n x)
 | 0, _ => fun _ h => by cases h
 | n + 1, x => fun y hy => by
  rcases List.mem_cons.1 hy with rfl | hy
  ·
   omega
  ·
   exact be_bytes n x y hy
theorem u64_wrap (x : Int) : IntKind.u64.wrap x = x % 18446744073709551616 := by
 simp [IntKind.wrap, IntKind.bits, IntKind.signed]
theorem pow2_256 (m : Nat) : (2 : Int) ^ (8 * m) = 256 ^ m := by
 rw [Int.pow_mul]
 rfl
theorem byte_wrap (x : Int) (m : Nat) (h : m < 8) : ((x % 18446744073709551616) / 256 ^ m) % 256 = (x / 256 ^ m) % 256 := by
 have : m = 0 ∨ m = 1 ∨ m = 2 ∨ m = 3 ∨ m = 4 ∨ m = 5 ∨ m = 6 ∨ m = 7 := by omega
 rcases this with rfl | rfl | rfl | rfl | rfl | rfl | rfl | rfl <;> simp only [Int.reducePow] <;> omega
theorem put_l0 (x : Int) : ∀ (m k : Nat) (l : List Int), m ≤ 8 → m + 1 ≤ k → l.length + 8 < 140737488355328 - m → octets_Put.l0 k (IntKind.u64.wrap x) l ((m : Int) - 1) = some (l ++ be m x) := by
 intro m
 induction m with
 | zero =>
  intro k l _ hk _
  obtain ⟨k, rfl⟩ : ∃ k', k = k' + 1 := ⟨k - 1, by omega⟩
  unfold octets_Put.l0
  rw [if_neg (by omega)]
  simp [be]
 | succ m ih =>
  intro k l hm hk hl
  obtain ⟨k, rfl⟩ : ∃ k', k = k' + 1 := ⟨k - 1, by omega⟩
  unfold octets_Put.l0
  have e1 : ((m + 1 : Nat) : Int) - 1 = (m : Int) := by omega
  have e2 : wrap64 (8 * (m : Int)) = 8 * (m : Int) := wrap64_id _ (by omega) (by omega)
  have e3 : wrap64 ((m : Int) - 1) = (m : Int) - 1 := wrap64_id _ (by omega) (by omega)
  rw [e1, if_pos (by omega), e2, if_pos (by omega), if_pos (by omega), e3, ih k _ (by omega) (by omega) (by simp; omega)]
  have e4 : shr .u64 (IntKind.u64.wrap x) (8 * (m : Int)) % 256 = (x / 256 ^ m) % 256 := by
   unfold shr
   have : min (8 * (m : Int)).toNat (IntKind.u64.bits) = 8 * m := by
    have : IntKind.u64.bits = 64 := rfl
    omega
   rw [this, pow2_256, u64_wrap, byte_wrap x m (by omega)]
  rw [e4]
  simp [be]
theorem put_eq (k : Nat) (l : List Int) (sz : Nat) (x : Int) (hs : sz = 4 ∨ sz = 8) (hl : l.length < 140737488355000) (hk : 9 ≤ k) : octets_Put.f k l (sz : Int) (IntKind.u64.wrap x) = some (l ++ be sz x) := by
 unfold octets_Put.f slices_Clone_byte_byte.f
 rw [if_pos (by omega), Option.bind_some]
 have e : mn (mx (sz : Int) 0) 8 - 1 = (sz : Int) - 1 := by rcases hs with rfl | rfl <;> rfl
 rw [e]
 exact put_l0 x sz k l (by omega) (by omega) (by omega)
theorem put4 (k : Nat) (l : List Int) (x : Int) (hl : l.length < 140737488355000) (hk : 9 ≤ k) : octets_Put.f k l 4 (IntKind.u64.wrap x) = some (l ++ be 4 x) := put_eq k l 4 x (.inl rfl) hl hk
def b01 (b : Bool) : Int := if b = true then 1 else 0
theorem truths_l0 (S : List Bool) (hS : S.length ≤ 1000000) : ∀ (m i k : Nat), i + m = S.length → m + 1 ≤ k → block_truths.l0 k ((S.take i).map b01 ++ List.replicate m 0) S (S.length : Int) (i : Int) = some (S.map b01) := by
 intro m
 induction m with
 | zero =>
  intro i k hi hk
  obtain ⟨k, rfl⟩ : ∃ k', k = k' + 1 := ⟨k - 1, by omega⟩
  unfold block_truths.l0
  rw [if_neg (by omega), List.take_of_length_le (by omega)]
  simp
 | succ m ih =>
  intro i k hi hk
  obtain ⟨k, rfl⟩ : ∃ k', k = k' + 1 := ⟨k - 1, by omega⟩
  have hil : i < S.length := by omega
  unfold block_truths.l0
  have hr : rdOf false S (i : Int) = S[i] := by unfold rdOf; rw [Int.toNat_natCast, List.getD_eq_getElem?_getD, List.getElem?_eq_getElem hil]; rfl
  have hlen : ((S.take i).map b01 ++ List.replicate (m + 1) (0 : Int)).length = S.length := by simp; omega
  have hi1 : (i : Int) + 1 = ((i + 1 : Nat) : Int) := by omega
  rw [if_pos (by omega), if_pos (by omega), if_pos (by omega), hr, hlen, if_pos (show (i : Int) < (S.length : Int) by omega), wrap64_id ((i : Int) + 1) (by omega) (by omega), hi1, Int.toNat_natCast]
  have h1 : ((S.take i).map b01).length = i := by simp; omega
  have hts : S.take (i + 1) = S.take i ++ [S[i]] := List.take_succ_eq_append_getElem hil
  have step : (S.take (i + 1)).map b01 ++ List.replicate m (0 : Int) = (S.take i).map b01 ++ (b01 S[i] :: List.replicate m 0) := by rw [hts, List.map_append, List.append_assoc]; rfl
  have ih' := ih (i + 1) k (by omega) (by omega)
  rw [step] at ih'
  rw [List.set_append_right _ _ (by omega), h1, Nat.sub_self, List.replicate_succ, List.set_cons_zero]
  cases hb : S[i] with
  | true =>
   rw [hb] at ih'
   rw [if_pos rfl]
   exact ih'
  | false =>
   rw [hb] at ih'
   rw [if_neg (by decide)]
   exact ih'
theorem truths_eq (k : Nat) (S : List Bool) (hS : S.length ≤ 1000000) (hk : S.length + 1 ≤ k) : block_truths.f k S = some (S.map b01) := by
 unfold block_truths.f
 rw [if_pos (by omega), Int.toNat_natCast, if_pos (by omega)]
 have h := truths_l0 S hS S.length 0 k (by omega) hk
 simpa using h
def jB (sz : Nat) (J : List S54) : List Int := J.flatMap fun j => be sz j.f0
def jK (J : List S54) : List Int := J.map fun j => j.f1 % 256
def kB (k : S56) (a : Int) : List Int := be 4 k.f0 ++ [b01 k.f1, a]
def kBs : List S56 → List Int → List Int
 | k :: K, a :: A => kB k a ++ kBs K A
 | _, _ => []
def lB (sz : Nat) (L : List S87) : List Int := L.flatMap fun l => be sz l.f0 ++ be 4 l.f1
theorem flat_len {α : Type} (f : α → List Int) (n : Nat) (h : ∀ x, (f x).length = n) : ∀ l : List α, (l.flatMap f).length = n * l.length
 | [] => rfl
 | x :: l => by rw [List.flatMap_cons, List.length_append, h, flat_len f n h l, List.length_cons, Nat.mul_succ]; omega
theorem jB_len (sz : Nat) (J : List S54) : (jB sz J).length = sz * J.length := flat_len (fun j : S54 => be sz j.f0) sz (fun j => be_length sz j.f0) J
theorem lB_len (sz : Nat) (L : List S87) : (lB sz L).length = (sz + 4) * L.length := flat_len (fun l : S87 => be sz l.f0 ++ be 4 l.f1) (sz + 4) (fun l => by rw [List.length_append, be_length, be_length]) L
theorem kBs_len : ∀ (K : List S56) (A : List Int), A.length = K.length → (kBs K A).length = 6 * K.length
 | [], [], _ => rfl
 | [], a :: A, h => by simp at h
 | k :: K, [], h => by simp at h
 | k :: K, a :: A, h => by
  unfold kBs
  rw [List.length_append, kBs_len K A (by simpa using h), List.length_cons]
  unfold kB
  rw [List.length_append, be_length]
  simp
  omega
section
variable (K : List S56) (J : List S54) (L : List S87) (S U : List Bool) (sz : Nat) (ver : Int)
theorem enc_l0 (hs : sz = 4 ∨ sz = 8) (hJ : J.length ≤ 5000) : ∀ (m i k : Nat) (x : List Int), i + m = J.length → 20 ≤ k → x.length + 8 * m ≤ 1000000 →
  block_Encode.l0 (m + 1 + k) sz ver x J (J.length : Int) (i : Int) K J L S U = block_Encode.l1 k sz ver (x ++ jB sz (J.drop i)) J (J.length : Int) 0 K J L S U := by
 intro m
 induction m with
 | zero =>
  intro i k x hi hk hx
  rw [show 0 + 1 + k = k + 1 by omega]
  conv => lhs; unfold block_Encode.l0
  rw [if_neg (by omega), List.drop_eq_nil_of_le (by omega)]
  simp [jB]
 | succ m ih =>
  intro i k x hi hk hx
  have hil : i < J.length := by omega
  rw [show m + 1 + 1 + k = (m + 1 + k) + 1 by omega]
  conv => lhs; unfold block_Encode.l0
  have hr : rd_T54 J (i : Int) = J[i] := by unfold rd_T54; rw [Int.toNat_natCast, List.getD_eq_getElem?_getD, List.getElem?_eq_getElem hil]; rfl
  have hi1 : (i : Int) + 1 = ((i + 1 : Nat) : Int) := by omega
  rw [if_pos (by omega), if_pos (by omega), if_pos (by omega), hr, put_eq _ [] sz _ hs (by simp) (by omega), Option.bind_some, List.nil_append, if_pos (by rw [be_length]; omega), wrap64_id ((i : Int) + 1) (by omega) (by omega), hi1, ih (i + 1) k _ (by omega) hk (by rw [List.length_append, be_length]; omega)]
  rw [List.drop_eq_getElem_cons hil]
  simp only [jB, List.flatMap_cons, List.append_assoc]
theorem enc_l1 (hJ : J.length ≤ 5000) : ∀ (m i k : Nat) (x : List Int), i + m = J.length → 20 ≤ k → x.length + m ≤ 1000000 →
  block_Encode.l1 (m + 1 + k) sz ver x J (J.length : Int) (i : Int) K J L S U = ((block_names.f K).bind fun b => block_Encode.l2 k sz ver (x ++ jK (J.drop i)) b.1 b.2 K (K.length : Int) 0 K J L S U) := by
 intro m
 induction m with
 | zero =>
  intro i k x hi hk hx
  rw [show 0 + 1 + k = k + 1 by omega]
  conv => lhs; unfold block_Encode.l1
  rw [if_neg (by omega), List.drop_eq_nil_of_le (by omega)]
  simp [jK]
 | succ m ih =>
  intro i k x hi hk hx
  have hil : i < J.length := by omega
  rw [show m + 1 + 1 + k = (m + 1 + k) + 1 by omega]
  conv => lhs; unfold block_Encode.l1
  have hr : rd_T54 J (i : Int) = J[i] := by unfold rd_T54; rw [Int.toNat_natCast, List.getD_eq_getElem?_getD, List.getElem?_eq_getElem hil]; rfl
  have hi1 : (i : Int) + 1 = ((i + 1 : Nat) : Int) := by omega
  rw [if_pos (by omega), if_pos (by omega), if_pos (by omega), hr, if_pos (by omega), wrap64_id ((i : Int) + 1) (by omega) (by omega), hi1, ih (i + 1) k _ (by omega) hk (by simp; omega)]
  rw [List.drop_eq_getElem_cons hil]
  simp only [jK, List.map_cons, List.append_assoc, List.singleton_append]
theorem enc_l2 (hK : K.length ≤ 256) (nm : ByteArray) (A : List Int) (hA : A.length = K.length) (hnm : nm.size ≤ 256) : ∀ (m i k : Nat) (x : List Int), i + m = K.length → 20 ≤ k → x.length + 6 * m ≤ 1000000 →
  block_Encode.l2 (m + 1 + k) sz ver x nm A K (K.length : Int) (i : Int) K J L S U = block_Encode.l3 k sz ver (x ++ kBs (K.drop i) (A.drop i) ++ bytesOf nm) nm L (L.length : Int) 0 K J L S U := by
 intro m
 induction m with
 | zero =>
  intro i k x hi hk hx
  rw [show 0 + 1 + k = k + 1 by omega]
  conv => lhs; unfold block_Encode.l2
  rw [if_neg (by omega), if_pos (by omega), List.drop_eq_nil_of_le (by omega)]
  simp [kBs]
 | succ m ih =>
  intro i k x hi hk hx
  have hil : i < K.length := by omega
  have hiA : i < A.length := by omega
  rw [show m + 1 + 1 + k = (m + 1 + k) + 1 by omega]
  conv => lhs; unfold block_Encode.l2
  have hr : rd_T56 K (i : Int) = K[i] := by unfold rd_T56; rw [Int.toNat_natCast, List.getD_eq_getElem?_getD, List.getElem?_eq_getElem hil]; rfl
  have hi1 : (i : Int) + 1 = ((i + 1 : Nat) : Int) := by omega
  have hmid : (A.take (i + 1)).drop i = [A[i]] := by
   rw [List.take_succ_eq_append_getElem hiA, List.drop_append_of_le_length (by rw [List.length_take]; omega), List.drop_eq_nil_of_le (by rw [List.length_take]; omega)]
   rfl
  rw [if_pos (by omega), if_pos (by omega), if_pos (by omega), hr, put4 _ [] _ (by simp) (by omega), Option.bind_some, List.nil_append, truths_eq _ [K[i].f1] (by simp) (by simp; omega), Option.bind_some, wrap64_id ((i : Int) + 1) (by omega) (by omega), hi1, if_pos (by omega), if_pos (by omega), Int.toNat_natCast, Int.toNat_natCast, hmid]
  have hc : slices_Concat_byte_byte.f [x, be 4 K[i].f0, [K[i].f1].map b01, [A[i]]] = some (x ++ kB K[i] A[i]) := by
   unfold slices_Concat_byte_byte.f
   have hl : ([x, be 4 K[i].f0, [K[i].f1].map b01, [A[i]]] : List (List Int)).flatten.length = x.length + 6 := by simp [be_length]
   first
    | (rw [if_pos (by rw [hl]; omega)]; simp [kB])
    | (simp [kB, be_length]; omega)
  rw [hc, Option.bind_some, ih (i + 1) k _ (by omega) hk (by rw [List.length_append]; unfold kB; rw [List.length_append, be_length]; simp; omega)]
  rw [List.drop_eq_getElem_cons hil, List.drop_eq_getElem_cons hiA]
  simp [kBs]
theorem enc_l3 (hs : sz = 4 ∨ sz = 8) (hL : L.length ≤ 5000) (hS : S.length ≤ 256) (hU : U.length ≤ 256) (nm : ByteArray) : ∀ (m i k : Nat) (x : List Int), i + m = L.length → 600 ≤ k → x.length + 12 * m ≤ 1000000 →
  block_Encode.l3 (m + 1 + k) sz ver x nm L (L.length : Int) (i : Int) K J L S U = some (x ++ lB sz (L.drop i) ++ S.map b01 ++ U.map b01, ver, (U.length : Int), (S.length : Int), (L.length : Int), (J.length : Int), (K.length : Int), (nm.size : Int), 0) := by
 intro m
 induction m with
 | zero =>
  intro i k x hi hk hx
  rw [show 0 + 1 + k = k + 1 by omega]
  conv => lhs; unfold block_Encode.l3
  have hc : slices_Concat_byte_byte.f [x, S.map b01, U.map b01] = some (x ++ S.map b01 ++ U.map b01) := by
   unfold slices_Concat_byte_byte.f
   have hl : ([x, S.map b01, U.map b01] : List (List Int)).flatten.length = x.length + (S.length + U.length) := by simp
   first
    | (rw [if_pos (by rw [hl]; omega)]; simp)
    | (simp; omega)
  rw [if_neg (by omega), truths_eq _ S (by omega) (by omega), Option.bind_some, truths_eq _ U (by omega) (by omega), Option.bind_some, hc, Option.bind_some, List.drop_eq_nil_of_le (by omega)]
  simp [lB]
 | succ m ih =>
  intro i k x hi hk hx
  have hil : i < L.length := by omega
  rw [show m + 1 + 1 + k = (m + 1 + k) + 1 by omega]
  conv => lhs; unfold block_Encode.l3
  have hr : rd_T87 L (i : Int) = L[i] := by unfold rd_T87; rw [Int.toNat_natCast, List.getD_eq_getElem?_getD, List.getElem?_eq_getElem hil]; rfl
  have hi1 : (i : Int) + 1 = ((i + 1 : Nat) : Int) := by omega
  have h8 : (be sz L[i].f0).length ≤ 8 := by rw [be_length]; omega
  rw [if_pos (by omega), if_pos (by omega), if_pos (by omega), hr, put_eq _ [] sz _ hs (by simp) (by omega), Option.bind_some, List.nil_append, put4 _ _ _ (by omega) (by omega), Option.bind_some, if_pos (by rw [List.length_append, be_length 4]; omega), wrap64_id ((i : Int) + 1) (by omega) (by omega), hi1, ih (i + 1) k _ (by omega) hk (by rw [List.length_append, List.length_append, be_length 4]; omega)]
  rw [List.drop_eq_getElem_cons hil]
  simp only [lB, List.flatMap_cons, List.append_assoc]
end
def encB (sz : Nat) (K : List S56) (J : List S54) (L : List S87) (S U : List Bool) : List Int :=
 jB sz J ++ jK J ++ kBs K (nst K).at_ ++ bytesOf (nst K).b ++ lB sz L ++ S.map b01 ++ U.map b01
structure RightB (K : List S56) (J : List S54) (L : List S87) (S U : List Bool) (sz : Nat) : Prop where
 s : sz = 4 ∨ sz = 8
 K0 : K ≠ []
 K1 : K.length ≤ 256
 J1 : J.length ≤ 5000
 L1 : L.length ≤ 5000
 S1 : S.length = 0 ∨ S.length = K.length
 U1 : U.length = 0 ∨ U.length = K.length
 N1 : (nst K).b.size ≤ 256
theorem right_bd {K : List S56} {J : List S54} {L : List S87} {S U : List Bool} {sz : Nat} {ver : Int} (h : rightS K J L S U sz ver = true) : RightB K J L S U sz := by
 unfold rightS kindedS jumpedS leapedS at h
 simp only [Bool.and_eq_true, Bool.or_eq_true, decide_eq_true_eq] at h
 obtain ⟨⟨⟨h1, ⟨⟨⟨⟨h2, h3⟩, h4⟩, h5⟩, h6⟩, h7⟩, h8, h9⟩, h10, h11⟩ := h
 exact ⟨by omega, fun e => by rw [e] at h2; simp at h2, h3, h9, h11, h4, h5, h7⟩
theorem encode_right (k : Nat) (K : List S56) (J : List S54) (L : List S87) (S U : List Bool) (sz : Nat) (ver : Int) (hv : 1 ≤ ver ∧ ver ≤ 4) (hr : nroom K ≤ 140737488355328) (h : rightS K J L S U sz ver = true) (hk : 40000 ≤ k) :
  block_Encode.f k K J L S U sz ver = some (encB sz K J L S U, ver, (U.length : Int), (S.length : Int), (L.length : Int), (J.length : Int), (K.length : Int), ((nst K).b.size : Int), 0) := by
 obtain ⟨hs, K0, K1, J1, L1, S1, U1, N1⟩ := right_bd h
 unfold block_Encode.f
 rw [if_neg (by omega), if_neg (by omega), right_eq k K J L S U sz ver hr (by omega) (by omega) (by omega), h, Option.bind_some]
 obtain ⟨k0, rfl⟩ : ∃ k', k = ((J.length + 1 + (J.length + 1 + (K.length + 1 + (L.length + 1 + k')))) + 1) := ⟨k - (((J.length + 1 + (J.length + 1 + (K.length + 1 + (L.length + 1))))) + 1), by omega⟩
 have hk0 : 600 ≤ k0 := by omega
 unfold block_Encode.j0
 show (if (!true) = true then some ([], 0, 0, 0, 0, 0, 0, 0, 1) else block_Encode.l0 _ _ _ _ _ _ _ _ _ _ _ _) = _
 rw [if_neg (by decide)]
 have h0 := enc_l0 K J L S U sz ver hs J1 J.length 0 (J.length + 1 + (K.length + 1 + (L.length + 1 + k0))) [] (by omega) (by omega) (by simp; omega)
 rw [Int.natCast_zero] at h0
 rw [h0, List.nil_append, List.drop_zero]
 have hjl : (jB sz J).length ≤ 40000 := by
  rw [jB_len]
  rcases hs with rfl | rfl <;> omega
 have h1 := enc_l1 K J L S U sz ver J1 J.length 0 (K.length + 1 + (L.length + 1 + k0)) (jB sz J) (by omega) (by omega) (by omega)
 rw [Int.natCast_zero] at h1
 rw [h1, List.drop_zero]
 have hn : block_names.f K = some ((nst K).b, (nst K).at_) := by unfold block_names.f; rw [if_pos ⟨K0, hr, by omega⟩]
 rw [hn, Option.bind_some]
 have hkl : (jK J).length = J.length := by simp [jK]
 have h2 := enc_l2 K J L S U sz ver K1 (nst K).b (nst K).at_ (nst_at_len K) N1 K.length 0 (L.length + 1 + k0) (jB sz J ++ jK J) (by omega) (by omega) (by rw [List.length_append]; omega)
 rw [Int.natCast_zero] at h2
 show block_Encode.l2 _ _ _ _ (nst K).b (nst K).at_ _ _ _ _ _ _ _ _ = _
 rw [h2, List.drop_zero, List.drop_zero]
 have hbl : (kBs K (nst K).at_).length = 6 * K.length := kBs_len K _ (nst_at_len K)
 have h3 := enc_l3 K J L S U sz ver hs L1 (by omega) (by omega) (nst K).b L.length 0 k0 (jB sz J ++ jK J ++ kBs K (nst K).at_ ++ bytesOf (nst K).b) (by omega) hk0 (by simp only [List.length_append]; rw [hbl, bytesOf_length]; omega)
 rw [Int.natCast_zero] at h3
 rw [h3, List.drop_zero]
 rfl
end Go.Proofs.Ytdcgclhmfflheaa.PQ
