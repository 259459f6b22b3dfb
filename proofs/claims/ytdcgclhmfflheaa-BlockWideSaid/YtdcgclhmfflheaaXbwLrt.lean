import Derived.Test.YtdcgclhmfflheaaXbwLdec
import Derived.Test.YtdcgclhmfflheaaXbwPQf25
import Derived.Test.YtdcgclhmfflheaaXbwPQf26
namespace Go.Proofs.Ytdcgclhmfflheaa.PQ
open Go.RowKit Go.Proofs.YtdcgclhmfflheaaW.PrintWords Go.Proofs.YtdcgclhmfflheaaW.PrintMore
set_option linter.unusedVariables false
set_option linter.unusedSimpArgs false
def i64b (n : Int) : Prop := -9223372036854775808 ≤ n ∧ n ≤ 9223372036854775807
structure RightN (K : List S56) (J : List S54) (L : List S87) (sz : Nat) : Prop where
 off : ∀ i (hi : i < K.length), -2147483648 < K[i].f0 ∧ K[i].f0 ≤ 2147483647
 nul : ∀ i (hi : i < K.length), hasNul K[i].f2 = false
 kind : ∀ i (hi : i < J.length), 0 ≤ J[i].f1 ∧ J[i].f1 < K.length
 at_ : ∀ i (hi : i < J.length), sz = 4 → -2147483648 ≤ J[i].f0 ∧ J[i].f0 < 2147483648
 lat : ∀ i (hi : i < L.length), sz = 4 → -2147483648 ≤ L[i].f0 ∧ L[i].f0 < 2147483648
 corr : ∀ i (hi : i < L.length), -5001 ≤ L[i].f1 ∧ L[i].f1 ≤ 5001
theorem getD_lt {α : Type} (l : List α) (i : Nat) (d : α) (h : i < l.length) : l.getD i d = l[i] := by
 rw [List.getD_eq_getElem?_getD, List.getElem?_eq_getElem h]; rfl
theorem leaps_bd (n : Nat) (size version : Int) : ∀ (L : List S87) (i : Nat) (a c : Int), leapsOk n size version i a c L = true → (∀ x ∈ L, -9223372036854775808 ≤ x.f1 ∧ x.f1 ≤ 9223372036854775807) → i + L.length ≤ 5000 → -(i : Int) - 1 ≤ c → c ≤ (i : Int) + 1 →
  ∀ j (hj : j < L.length), (-(i : Int) - j - 2 ≤ L[j].f1 ∧ L[j].f1 ≤ (i : Int) + j + 2) ∧ (size = 4 → -2147483648 ≤ L[j].f0 ∧ L[j].f0 < 2147483648)
 | [], i, a, c, _, _, _, _, _, j, hj => by simp at hj
 | X :: L, i, a, c, h, hw, hl, h0, h1, j, hj => by
  unfold leapsOk leapOk at h
  simp only [Bool.and_eq_true, Bool.or_eq_true, decide_eq_true_eq] at h
  obtain ⟨⟨⟨h2, h3⟩, h4⟩, h5⟩ := h
  have hX := hw X (by simp)
  have hc : -(i : Int) - 2 ≤ X.f1 ∧ X.f1 ≤ (i : Int) + 2 := by
   simp only [List.length_cons] at hl
   rcases h3 with (h3 | h3) | h3
   ·
    unfold wrap64 at h3; omega
   ·
    unfold wrap64 at h3; omega
   ·
    have h3 := h3.2; unfold wrap64 at h3; omega
  have hf : size = 4 → -2147483648 ≤ X.f0 ∧ X.f0 < 2147483648 := by
   intro e
   unfold fitsS at h4
   simp [e] at h4
   exact h4
  cases j with
  | zero => exact ⟨⟨by simp; omega, by simp; omega⟩, by simpa using hf⟩
  | succ j =>
   have ih := leaps_bd n size version L (i + 1) X.f0 X.f1 h5 (fun x hx => hw x (by simp [hx])) (by simp at hl; omega) (by push_cast; omega) (by push_cast; omega) j (by simpa using hj)
   simp only [List.getElem_cons_succ]
   refine ⟨⟨?_, ?_⟩, ih.2⟩
   ·
    have := ih.1.1; push_cast at this ⊢; omega
   ·
    have := ih.1.2; push_cast at this ⊢; omega
theorem right_nums {K : List S56} {J : List S54} {L : List S87} {S U : List Bool} {sz : Nat} {ver : Int} (h : rightS K J L S U sz ver = true) (hL : ∀ x ∈ L, -9223372036854775808 ≤ x.f1 ∧ x.f1 ≤ 9223372036854775807) : RightN K J L sz := by
 have hb := right_bd h
 unfold rightS kindedS jumpedS leapedS at h
 simp only [Bool.and_eq_true, Bool.or_eq_true, decide_eq_true_eq] at h
 obtain ⟨⟨⟨h1, ⟨⟨⟨⟨h2, h3⟩, h4⟩, h5⟩, h6⟩, h7⟩, h8, h9⟩, h10, h11⟩ := h
 have hk : ∀ i (hi : i < K.length), kindOk S U i K[i] = true := fun i hi => by
  have := List.all_eq_true.1 h6 i (by rw [List.mem_range'_1]; omega)
  rwa [getD_lt _ _ _ hi] at this
 have hj : ∀ i (hi : i < J.length), 0 ≤ J[i].f1 ∧ J[i].f1 < K.length ∧ fitsS J[i].f0 sz = true := fun i hi => by
  have := List.all_eq_true.1 h8 i (by rw [List.mem_range'_1]; omega)
  unfold jumpOk at this
  rw [getD_lt J i _ hi] at this
  simp only [Bool.and_eq_true, decide_eq_true_eq] at this
  exact ⟨this.1.1.2, this.1.2, this.2⟩
 have hl := leaps_bd _ _ _ L 0 (-1) 0 h10 hL (by omega) (by omega) (by omega)
 refine ⟨fun i hi => ?_, fun i hi => ?_, fun i hi => ⟨(hj i hi).1, (hj i hi).2.1⟩, fun i hi e => ?_, fun i hi e => (hl i hi).2 (by rw [e]; rfl), fun i hi => ?_⟩
 ·
  have := hk i hi
  unfold kindOk at this
  simp only [Bool.and_eq_true, decide_eq_true_eq] at this
  exact this.1.1
 ·
  have := hk i hi
  unfold kindOk at this
  simp only [Bool.and_eq_true, decide_eq_true_eq] at this
  simpa using this.1.2
 ·
  have := (hj i hi).2.2
  unfold fitsS at this
  simp [e] at this
  exact this
 ·
  have := (hl i hi).1
  constructor <;> omega
theorem right_hdr {K : List S56} {J : List S54} {L : List S87} {S U : List Bool} {sz : Nat} (hb : RightB K J L S U sz) (ver : Int) (hv : 1 ≤ ver ∧ ver ≤ 4) :
  header_Right.f ver U.length S.length L.length J.length K.length (nst K).b.size = some true := by
 obtain ⟨hs, K0, K1, J1, L1, S1, U1, N1⟩ := hb
 have hK1 : 1 ≤ K.length := by cases K with | nil => exact absurd rfl K0 | cons => simp
 have hN := nst_b_pos K K0
 unfold header_Right.f
 simp only [within_some, Option.bind_some]
 have d1 : decide (1 ≤ ver ∧ ver ≤ 4) = true := decide_eq_true hv
 have d2 : decide (1 ≤ (K.length : Int) ∧ (K.length : Int) ≤ 256) = true := decide_eq_true (by omega)
 have d3 : decide (1 ≤ ((nst K).b.size : Int) ∧ ((nst K).b.size : Int) ≤ 256) = true := decide_eq_true (by omega)
 have d4 : decide (0 ≤ (J.length : Int) ∧ (J.length : Int) ≤ 5000) = true := decide_eq_true (by omega)
 have d5 : decide (0 ≤ (L.length : Int) ∧ (L.length : Int) ≤ 5000) = true := decide_eq_true (by omega)
 simp only [d1, d2, d3, d4, d5, if_true]
 by_cases eU : (U.length : Int) = 0
 ·
  rw [if_pos eU]
  by_cases eS : (S.length : Int) = 0
  ·
   simp [eS]
  ·
   have : S.length = K.length := by omega
   simp [eS, this]
 ·
  have hu : U.length = K.length := by omega
  rw [if_neg eU]
  by_cases eS : (S.length : Int) = 0
  ·
   simp [eS, hu]
  ·
   have : S.length = K.length := by omega
   simp [eS, this, hu]
theorem encB_len {K : List S56} {J : List S54} {L : List S87} {S U : List Bool} {sz : Nat} : (encB sz K J L S U).length = J.length * (sz + 1) + K.length * 6 + (nst K).b.size + L.length * (sz + 4) + S.length + U.length := by
 unfold encB
 simp only [List.length_append, jB_len, lB_len, kBs_len K _ (nst_at_len K), bytesOf_length, List.length_map]
 have : (jK J).length = J.length := by simp [jK]
 have e1 : J.length * (sz + 1) = sz * J.length + J.length := by rw [Nat.mul_succ, Nat.mul_comm]
 have e2 : (sz + 4) * L.length = L.length * (sz + 4) := Nat.mul_comm _ _
 rw [this, e1, e2]
 omega
theorem right_body {K : List S56} {J : List S54} {L : List S87} {S U : List Bool} {sz : Nat} (hb : RightB K J L S U sz) (ver : Int) (hv : 1 ≤ ver ∧ ver ≤ 4) :
  header_Body.f ver U.length S.length L.length J.length K.length (nst K).b.size sz = some ((encB sz K J L S U).length : Int) := by
 have hd := hdr_bd (right_hdr hb ver hv)
 rw [body_eq hd (by have := hb.s; omega), encB_len]
 push_cast
 rfl
theorem flat_bytes {α : Type} (f : α → List Int) (h : ∀ x, bytesOk (f x)) (l : List α) : bytesOk (l.flatMap f) := fun x hx => by
 obtain ⟨y, _, hy⟩ := List.mem_flatMap.1 hx
 exact h y x hy
theorem bytesOk_append {a b : List Int} (ha : bytesOk a) (hb : bytesOk b) : bytesOk (a ++ b) := fun x hx => (List.mem_append.1 hx).elim (ha x) (hb x)
theorem b01_ok (S : List Bool) : bytesOk (S.map b01) := fun x hx => by
 obtain ⟨b, _, rfl⟩ := List.mem_map.1 hx
 cases b <;> decide
theorem bytesOf_ok (s : ByteArray) : bytesOk (bytesOf s) := fun x hx => by
 unfold bytesOf at hx
 obtain ⟨b, _, rfl⟩ := List.mem_map.1 hx
 have := b.toNat_lt
 omega
theorem at_ok : ∀ K : List S56, bytesOk (nst K).at_ := by
 intro K
 unfold nst
 suffices h : ∀ (K : List S56) (s : NSt), bytesOk s.at_ → bytesOk (K.foldl nstep s).at_ from h K _ (fun x hx => by cases hx)
 intro K
 induction K with
 | nil => intro s h; exact h
 | cons k K ih =>
  intro s h
  refine ih _ ?_
  unfold nstep
  split
  ·
   exact bytesOk_append h (fun x hx => by rw [List.mem_singleton] at hx; subst hx; omega)
  ·
   exact bytesOk_append h (fun x hx => by rw [List.mem_singleton] at hx; subst hx; omega)
theorem kBs_ok : ∀ (K : List S56) (A : List Int), bytesOk A → bytesOk (kBs K A)
 | [], _, _ => fun x hx => by simp [kBs] at hx
 | k :: K, [], _ => fun x hx => by simp [kBs] at hx
 | k :: K, a :: A, h => by
  unfold kBs kB
  refine bytesOk_append (bytesOk_append (be_bytes 4 _) (fun x hx => ?_)) (kBs_ok K A (fun x hx => h x (by simp [hx])))
  simp only [List.mem_cons, List.not_mem_nil, or_false] at hx
  rcases hx with rfl | rfl
  ·
   cases k.f1 <;> decide
  ·
   exact h x (by simp)
theorem encB_ok (sz : Nat) (K : List S56) (J : List S54) (L : List S87) (S U : List Bool) : bytesOk (encB sz K J L S U) := by
 unfold encB
 refine bytesOk_append (bytesOk_append (bytesOk_append (bytesOk_append (bytesOk_append (bytesOk_append (flat_bytes (fun j : S54 => be sz j.f0) (fun j => be_bytes sz j.f0) J) (fun x hx => ?_)) (kBs_ok K _ (at_ok K))) (bytesOf_ok _)) (flat_bytes (fun l : S87 => be sz l.f0 ++ be 4 l.f1) (fun l => bytesOk_append (be_bytes sz l.f0) (be_bytes 4 l.f1)) L)) (b01_ok S)) (b01_ok U)
 unfold jK at hx
 obtain ⟨b, _, rfl⟩ := List.mem_map.1 hx
 omega
theorem drop_left_eq {a b : List Int} {n : Nat} (h : a.length = n) : (a ++ b).drop n = b := by rw [← h, List.drop_left]
theorem marks_map (S : List Bool) : (S.map b01).map (· == 1) = S := by
 rw [List.map_map]
 conv => rhs; rw [← List.map_id S]
 apply List.map_congr_left
 intro b _
 cases b <;> rfl
theorem marksOk_map (S : List Bool) (ok : Bool) : marksOk (S.map b01) ok = ok := by
 unfold marksOk
 induction S generalizing ok with
 | nil => rfl
 | cons b S ih =>
  rw [List.map_cons, List.foldl_cons, ih]
  cases b <;> cases ok <;> rfl
theorem dparts_enc {K : List S56} {J : List S54} {L : List S87} {S U : List Bool} {sz : Nat} (hb : RightB K J L S U sz) (hn : RightN K J L sz) (hJ : ∀ x ∈ J, i64b x.f0) (hL : ∀ x ∈ L, i64b x.f0) :
  dparts (encB sz K J L S U) U.length S.length L.length J.length K.length (nst K).b.size sz = { kinds := K, jumps := J, leaps := L, std := S, ut := U, ok := true } := by
 obtain ⟨R1, hR1⟩ : ∃ R, R = U.map b01 := ⟨_, rfl⟩
 obtain ⟨R2, hR2⟩ : ∃ R, R = S.map b01 ++ R1 := ⟨_, rfl⟩
 obtain ⟨R3, hR3⟩ : ∃ R, R = lB sz L ++ R2 := ⟨_, rfl⟩
 obtain ⟨R4, hR4⟩ : ∃ R, R = bytesOf (nst K).b ++ R3 := ⟨_, rfl⟩
 obtain ⟨R5, hR5⟩ : ∃ R, R = kBs K (nst K).at_ ++ R4 := ⟨_, rfl⟩
 obtain ⟨R6, hR6⟩ : ∃ R, R = jK J ++ R5 := ⟨_, rfl⟩
 have he : encB sz K J L S U = jB sz J ++ R6 := by
  rw [hR6, hR5, hR4, hR3, hR2, hR1]
  unfold encB
  simp only [List.append_assoc]
 have hjk : (jK J).length = J.length := by simp [jK]
 have hlen := nst_at_len K
 unfold dparts
 have d1 : (encB sz K J L S U).drop (sz * J.length) = R6 := by rw [he]; exact drop_left_eq (jB_len sz J)
 have d2 : R6.drop J.length = R5 := by rw [hR6]; exact drop_left_eq hjk
 have d3 : R5.drop (6 * K.length) = R4 := by rw [hR5]; exact drop_left_eq (kBs_len K _ hlen)
 have d4 : R4.take (nst K).b.size = bytesOf (nst K).b := by rw [hR4]; exact List.take_left' (bytesOf_length _)
 have d5 : R4.drop (nst K).b.size = R3 := by rw [hR4]; exact drop_left_eq (bytesOf_length _)
 have d6 : R3.drop ((sz + 4) * L.length) = R2 := by rw [hR3]; exact drop_left_eq (lB_len sz L)
 have d7 : R2.drop S.length = R1 := by rw [hR2]; exact drop_left_eq (by simp)
 have d8 : R2.take S.length = S.map b01 := by rw [hR2]; exact List.take_left' (by simp)
 have d9 : R1.take U.length = U.map b01 := by rw [hR1]; exact List.take_of_length_le (by simp)
 simp only [d1, d2, d3, d4, d5, d6, d7, d8, d9, marks_map, marksOk_map]
 have kd : ∀ i (hi : i < K.length), numI ((R5.drop (6 * i)).take 4) = K[i].f0 ∧ R5.getD (6 * i + 4) 0 = b01 K[i].f1 ∧ R5.getD (6 * i + 5) 0 = (nst K).at_.getD i 0 := by
  intro i hi
  obtain ⟨R', hR'⟩ := kBs_drop R4 K (nst K).at_ i hlen hi
  rw [← hR5] at hR'
  have e1 : (R5.drop (6 * i)).take 4 = be 4 K[i].f0 := by
   rw [hR']
   unfold kB
   rw [List.append_assoc]
   exact take_be 4 _ _
  have e2 : ∀ j, R5.getD (6 * i + (4 + j)) 0 = ([b01 K[i].f1, (nst K).at_[i]'(by omega)] ++ R').getD j 0 := by
   intro j
   rw [getD_drop, hR']
   unfold kB
   rw [List.append_assoc, getD_drop, drop_left_eq (be_length 4 _)]
  refine ⟨by rw [e1]; exact numI_be4 _ (by have := hn.off i hi; omega), e2 0, ?_⟩
  have := e2 1
  rw [this, getD_lt (nst K).at_ i 0 (by omega)]
  rfl
 have nm : ∀ i (hi : i < K.length), dName (bytesOf (nst K).b) (R5.getD (6 * i + 5) 0) = (K[i].f2, true) := by
  intro i hi
  rw [(kd i hi).2.2]
  exact (nst_name K hb.N1 i hi (hn.nul i hi)).2.2
 have hk : (List.range K.length).map (dKind R5 (bytesOf (nst K).b)) = K := range_map_eq K _ (fun i hi => by
  unfold dKind
  rw [(kd i hi).1, (kd i hi).2.1, nm i hi]
  have : (b01 K[i].f1 == 1) = K[i].f1 := by cases K[i].f1 <;> rfl
  rw [this])
 have hj : (List.range J.length).map (dJump (encB sz K J L S U) R6 sz) = J := range_map_eq J _ (fun i hi => by
  unfold dJump
  obtain ⟨R', hR'⟩ := flat_drop (fun j : S54 => be sz j.f0) sz (fun j => be_length sz j.f0) R6 J i hi
  have e1 : (encB sz K J L S U).drop (sz * i) = be sz J[i].f0 ++ R' := by rw [he]; exact hR'
  have e2 : R6.getD i 0 = J[i].f1 := by
   rw [hR6, List.getD_eq_getElem?_getD, List.getElem?_append_left (by omega)]
   unfold jK
   rw [List.getElem?_map, List.getElem?_eq_getElem hi]
   have h1 := hn.kind i hi
   have h2 := hb.K1
   show J[i].f1 % 256 = J[i].f1
   omega
  rw [e1, take_be, e2, numI_be sz _ (by
   have h1 := hn.at_ i hi
   have h2 := hJ J[i] (List.getElem_mem hi)
   unfold i64b at h2
   rcases hb.s with e | e
   ·
    exact .inr ⟨e, (h1 e).1, by have := (h1 e).2; omega⟩
   ·
    exact .inl ⟨e, h2⟩)])
 have hl : (List.range L.length).map (dLeap R3 sz) = L := range_map_eq L _ (fun i hi => by
  unfold dLeap
  obtain ⟨R', hR'⟩ := flat_drop (fun l : S87 => be sz l.f0 ++ be 4 l.f1) (sz + 4) (fun l => by rw [List.length_append, be_length, be_length]) R2 L i hi
  have e1 : R3.drop ((sz + 4) * i) = be sz L[i].f0 ++ (be 4 L[i].f1 ++ R') := by rw [hR3, ← List.append_assoc]; exact hR'
  have e2 : R3.drop ((sz + 4) * i + sz) = be 4 L[i].f1 ++ R' := by rw [← List.drop_drop, e1]; exact drop_left_eq (be_length sz _)
  rw [e1, take_be, e2, take_be, numI_be4 _ (by have := hn.corr i hi; omega), numI_be sz _ (by
   have h1 := hn.lat i hi
   have h2 := hL L[i] (List.getElem_mem hi)
   unfold i64b at h2
   rcases hb.s with e | e
   ·
    exact .inr ⟨e, (h1 e).1, by have := (h1 e).2; omega⟩
   ·
    exact .inl ⟨e, h2⟩)])
 have hok : ((List.range K.length).all fun i => decide (R5.getD (6 * i + 4) 0 < 2) && (dName (bytesOf (nst K).b) (R5.getD (6 * i + 5) 0)).2) = true := by
  rw [List.all_eq_true]
  intro i hi
  have hi := List.mem_range.1 hi
  rw [nm i hi, (kd i hi).2.1]
  cases K[i].f1 <;> rfl
 rw [hk, hj, hl, hok]
theorem decode_enc (k : Nat) {K : List S56} {J : List S54} {L : List S87} {S U : List Bool} {sz : Nat} {ver : Int} (hv : 1 ≤ ver ∧ ver ≤ 4) (hr : rightS K J L S U sz ver = true) (hroom : nroom K ≤ 140737488355328) (hJ : ∀ x ∈ J, i64b x.f0) (hL : ∀ x ∈ L, i64b x.f0 ∧ i64b x.f1) (more : List Int) (hm : bytesOk more) :
  block_Decode.f (encB sz K J L S U ++ more) ver U.length S.length L.length J.length K.length (nst K).b.size sz = some (K, J, L, S, U, 0) := by
 have hb := right_bd hr
 have hn := right_nums hr (fun x hx => (hL x hx).2)
 unfold block_Decode.f
 rw [if_neg (by have := hb.s; omega), right_hdr hb ver hv, Option.bind_some, if_neg (by decide), right_body hb ver hv, Option.bind_some, if_neg (by rw [List.length_append]; omega), if_pos (bytesOk_append (encB_ok _ _ _ _ _ _) hm)]
 simp only [Int.toNat_natCast, List.take_left, dparts_enc hb hn hJ (fun x hx => (hL x hx).1)]
 rw [if_neg (by decide), right_eq 40000 K J L S U sz ver hroom (by have := hb.J1; omega) (by have := hb.L1; omega) (by have := hb.K1; have := hb.J1; have := hb.L1; omega), hr, Option.bind_some, if_pos rfl]
end Go.Proofs.Ytdcgclhmfflheaa.PQ
