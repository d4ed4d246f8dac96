/- The scanner's other readers, and all of them in a row. -/
import Derived.Test.YtedjnaggkakphaaGreatDoorDu
import Derived.Test.YtedjnaggkakphaaGreatDoorDp
set_option linter.all false
namespace Go.Proofs.YtedjnaggkakphaaGreatDoor.Dx
open Go Go.RowKit Go.Proofs
set_option maxRecDepth 100000
set_option maxHeartbeats 8000000
abbrev TimeOk : Prop := ∀ s : List UInt8, s.length ≤ 1048576 → Meets Tryz.prog 22 [.str s] fun d => d = timeD s
theorem isTime_meets (hT : TimeOk) (s : List UInt8) (hs : s.length ≤ 1048576) : Meets Tryz.prog 33 [.str s] fun d => d = bD (timeN s).isSome := by
 have k := hT s hs
 unfold timeD at k
 cases ht : timeN s with
 | none =>
   rw [ht] at k
   refine enter tok {} Tryz.func33 rfl (by kernel_rfl) Tryz.ntmps33 (by simp) fun B0 W0 V0 lent g0 => ?_
   ((conv => whnf); repeat' (refine Z rfl ?_; conv => whnf))
   repeat' ((first | (intro hlq; (try simp only [SL] at hlq)) | refine Meets.k (k) ?_ | refine Ks ?_ | refine Kq ?_ | refine Kt ?_ | ((refine Kh (fun hb => ?_) fun hb => ?_) <;> (try simp only [BL] at hb)) | refine Ka ?_ | refine Kb ?_ | refine Kc (hd := rfl) (e := ?_) | refine Kc (hd := icells_eq _) (e := ?_) | refine Kd (e := ?_) | refine Kl rfl ?_ | fail) <;> ((conv => whnf); repeat' (refine Z rfl ?_; conv => whnf)))
   all_goals first | exact ⟨rfl⟩ | (exfalso; omega)
 | some v =>
   rw [ht] at k
   refine enter tok {} Tryz.func33 rfl (by kernel_rfl) Tryz.ntmps33 (by simp) fun B0 W0 V0 lent g0 => ?_
   ((conv => whnf); repeat' (refine Z rfl ?_; conv => whnf))
   repeat' ((first | (intro hlq; (try simp only [SL] at hlq)) | refine Meets.k (k) ?_ | refine Ks ?_ | refine Kq ?_ | refine Kt ?_ | ((refine Kh (fun hb => ?_) fun hb => ?_) <;> (try simp only [BL] at hb)) | refine Ka ?_ | refine Kb ?_ | refine Kc (hd := rfl) (e := ?_) | refine Kc (hd := icells_eq _) (e := ?_) | refine Kd (e := ?_) | refine Kl rfl ?_ | fail) <;> ((conv => whnf); repeat' (refine Z rfl ?_; conv => whnf)))
   all_goals first | exact ⟨rfl⟩ | (exfalso; omega)
theorem r65_meets (hT : TimeOk) (src : List UInt8) (a : Nat) (ha : a < src.length) (hl : src.length ≤ 65536) (hc : isLt src[a] = false) (hd : (isDg src[a] || (src[a] == 45 && hdDg (src.drop (a + 1)))) = true) :
 Meets Tryz.prog 65 [scP src a] fun d => d = rdD a (readT (src.drop a)) := by
 have k1 := run_meets src a (a + 1) true (by omega)
 have hle := runN_le true (src.drop (a + 1))
 rw [List.length_drop] at hle
 have hr : readT (src.drop a) = numT ((src.drop a).take (runN true (src.drop (a + 1)) + 1)) (runN true (src.drop (a + 1)) + 1) := by
  rw [List.drop_eq_getElem_cons ha, readT, hc, if_neg (by decide), if_pos hd]
 rw [hr]
 generalize hn : runN true (src.drop (a + 1)) + 1 = n at *
 have k1 : Meets Tryz.prog 63 [scP src a, iD ((a : Int) + 1), bD true] fun d => d = iD (a + n : Nat) := by
  rw [show a + 1 + runN true (src.drop (a + 1)) = a + n by omega] at k1
  exact k1
 have hn' : a + n ≤ src.length := by omega
 have k2 := take_meets src a 2 a n hn' rfl
 have k3 := take_meets src a 3 a n hn' rfl
 have e := dt_eq src a n
 have hlen : ((src.drop a).take n).length ≤ 65536 := by rw [List.length_take, List.length_drop]; omega
 have k4 := isInteger_meets ((src.drop a).take n) (by unfold maxLen; omega)
 have k5 := isTime_meets hT ((src.drop a).take n) (by omega)
 rw [← e] at k4 k5
 clear hr hn hle hd hc
 rw [numT]
 refine enter tok {} Tryz.func65 rfl (by kernel_rfl) Tryz.ntmps65 (by simp) fun B0 W0 V0 lent g0 => ?_
 ((conv => whnf); repeat' (refine Z rfl ?_; conv => whnf))
 repeat' ((first | (intro hlq; (try simp only [SL] at hlq)) | refine Meets.k (k1) ?_ | refine Ks ?_ | refine Kq ?_ | refine Kt ?_ | ((refine Kh (fun hb => ?_) fun hb => ?_) <;> (try simp only [BL] at hb)) | refine Ka ?_ | refine Kb ?_ | refine Kc (hd := rfl) (e := ?_) | refine Kc (hd := icells_eq _) (e := ?_) | refine Kd (e := ?_) | refine Kl rfl ?_ | fail) <;> ((conv => whnf); repeat' (refine Z rfl ?_; conv => whnf)))
 refine draw_rule tok (cf := {}) (by kernel_rfl) [.p 0, .p 1, .p 2, .p 3, .p 4, .p 5, .p 6, .p 7, .p 8, .p 9, .p 10, .p 11] (by kernel_rfl) ?_
 ((conv => whnf); repeat' (refine Z rfl ?_; conv => whnf))
 repeat' ((first | (intro hlq; (try simp only [SL] at hlq)) | refine Ky ?_ | refine ⟨_, bc_eq _ _ _, ?_⟩ | refine Ks ?_ | refine Kq ?_ | refine Kt ?_ | ((refine Kh (fun hb => ?_) fun hb => ?_) <;> (try simp only [BL] at hb)) | refine Ka ?_ | refine Kb ?_ | refine Kc (hd := rfl) (e := ?_) | refine Kc (hd := icells_eq _) (e := ?_) | refine Kd (e := ?_) | refine Kl rfl ?_ | fail) <;> ((conv => whnf); repeat' (refine Z rfl ?_; conv => whnf)))
 repeat' ((first | (intro hlq; (try simp only [SL] at hlq)) | refine Meets.k (k4) ?_ | refine Meets.k (k5) ?_ | refine Meets.k (k2) ?_ | refine Meets.k (k3) ?_ | refine Ks ?_ | refine Kq ?_ | refine Kt ?_ | ((refine Kh (fun hb => ?_) fun hb => ?_) <;> (try simp only [BL] at hb)) | refine Ka ?_ | refine Kb ?_ | refine Kc (hd := rfl) (e := ?_) | refine Kc (hd := icells_eq _) (e := ?_) | refine Kd (e := ?_) | refine Kl rfl ?_ | fail) <;> ((conv => whnf); repeat' (refine Z rfl ?_; conv => whnf)))
 all_goals
  rw [e] at *
  refine ⟨?_⟩
  simp [tkA, *]
theorem Kyz {l : List UInt8} {i : Int} {E : Prop} (e : E) (h : 0 ≤ i ∧ i ≤ (l.length : Int) := by omega) : ((byteCells l).length ≤ maxLen → 0 ≤ i ∧ i ≤ ((byteCells l).length : Int) ∧ ((byteCells l).length : Int) ≤ ((byteCells l).length : Int) ∧ ∀ ds ∈ byteCells l, ds.length = 1) ∧ E :=
 ⟨fun _ => ⟨h.1, by rw [List.length_map]; exact h.2, Int.le_refl _, bc_len l⟩, e⟩
theorem r67_meets (src : List UInt8) (a : Nat) (ha : a < src.length) (hl : src.length ≤ 65536) (h34 : src[a] = 34) :
 Meets Tryz.prog 67 [scP src a] fun d => d = rdD a (readT (src.drop a)) := by
 have hd : src.drop a = 34 :: src.drop (a + 1) := by rw [List.drop_eq_getElem_cons ha, h34]
 have kq := quoted_meets (src.drop a) (by rw [List.length_drop]; omega)
 have e : List.drop ((a : Nat) : Int).toNat (List.take ((byteCells src).length : Int).toNat (byteCells src)) = byteCells (src.drop a) := by
  rw [Int.toNat_natCast, Int.toNat_natCast, List.take_of_length_le (Nat.le_refl _)]; simp [byteCells, List.map_drop]
 rw [← e] at kq
 rw [show (src.drop a).drop 1 = src.drop (a + 1) by rw [List.drop_drop]] at kq
 have hr : readT (src.drop a) = match quoN (src.drop (a + 1)) with | some (s, n) => (4, s, n + 1) | none => (0, [], 1) := by
  rw [hd, readT, if_neg (by decide), if_neg (by simp; decide), if_pos rfl]
  rfl
 rw [hr]
 clear hr hd e
 cases hq : quoN (src.drop (a + 1)) with
 | none =>
   rw [hq] at kq
   have kq : Meets Tryz.prog 68 _ fun d => d = .tup [.str [], iD 0] := kq
   refine enter tok {} Tryz.func67 rfl (by kernel_rfl) Tryz.ntmps67 (by simp) fun B0 W0 V0 lent g0 => ?_
   ((conv => whnf); repeat' (refine Z rfl ?_; conv => whnf))
   refine draw_rule tok (cf := {}) (by kernel_rfl) [.p 0, .p 1, .p 2, .p 3, .p 4, .p 5, .p 6, .p 7, .p 8, .s 9 [8,3,7,2,6,1,5,0,4], .p 10, .p 11, .p 12, .p 13, .p 14] (by kernel_rfl) ?_
   ((conv => whnf); repeat' (refine Z rfl ?_; conv => whnf))
   repeat' ((first | (intro hlq; (try simp only [SL] at hlq)) | refine Kyz ?_ | refine Meets.k (kq) ?_ | refine Ks ?_ | refine Kq ?_ | refine Kt ?_ | ((refine Kh (fun hb => ?_) fun hb => ?_) <;> (try simp only [BL] at hb)) | refine Ka ?_ | refine Kb ?_ | refine Kc (hd := rfl) (e := ?_) | refine Kc (hd := icells_eq _) (e := ?_) | refine Kd (e := ?_) | refine Kl rfl ?_ | fail) <;> ((conv => whnf); repeat' (refine Z rfl ?_; conv => whnf)))
   · refine draw_rule tok (cf := {}) (by kernel_rfl) [.p 0, .p 1, .p 2, .p 3, .p 4, .p 5, .s 6 [0], .p 7] (by kernel_rfl) ?_
     ((conv => whnf); repeat' (refine Z rfl ?_; conv => whnf))
     repeat' ((first | (intro hlq; (try simp only [SL] at hlq)) | refine Ks ?_ | refine Kq ?_ | refine Kt ?_ | ((refine Kh (fun hb => ?_) fun hb => ?_) <;> (try simp only [BL] at hb)) | refine Ka ?_ | refine Kb ?_ | refine Kc (hd := rfl) (e := ?_) | refine Kc (hd := icells_eq _) (e := ?_) | refine Kd (e := ?_) | refine Kl rfl ?_ | fail) <;> ((conv => whnf); repeat' (refine Z rfl ?_; conv => whnf)))
     exact ⟨rfl⟩
   · exfalso; exact absurd trivial (by assumption)
 | some x =>
   obtain ⟨s, n⟩ := x
   have hb := quoN_le _ _ (Nat.le_refl _) _ _ hq
   rw [List.length_drop] at hb
   rw [hq] at kq
   have kq : Meets Tryz.prog 68 _ fun d => d = .tup [.str s, iD (n + 1 : Nat)] := kq
   refine enter tok {} Tryz.func67 rfl (by kernel_rfl) Tryz.ntmps67 (by simp) fun B0 W0 V0 lent g0 => ?_
   ((conv => whnf); repeat' (refine Z rfl ?_; conv => whnf))
   refine draw_rule tok (cf := {}) (by kernel_rfl) [.p 0, .p 1, .p 2, .p 3, .p 4, .p 5, .p 6, .p 7, .p 8, .s 9 [8,3,7,2,6,1,5,0,4], .p 10, .p 11, .p 12, .p 13, .p 14] (by kernel_rfl) ?_
   ((conv => whnf); repeat' (refine Z rfl ?_; conv => whnf))
   repeat' ((first | (intro hlq; (try simp only [SL] at hlq)) | refine Kyz ?_ | refine Meets.k (kq) ?_ | refine Ks ?_ | refine Kq ?_ | refine Kt ?_ | ((refine Kh (fun hb => ?_) fun hb => ?_) <;> (try simp only [BL] at hb)) | refine Ka ?_ | refine Kb ?_ | refine Kc (hd := rfl) (e := ?_) | refine Kc (hd := icells_eq _) (e := ?_) | refine Kd (e := ?_) | refine Kl rfl ?_ | fail) <;> ((conv => whnf); repeat' (refine Z rfl ?_; conv => whnf)))
   · exfalso; omega
   · refine draw_rule tok (cf := {}) (by kernel_rfl) [.p 0, .p 1, .p 2, .p 3, .p 4, .p 5, .p 6, .p 7, .p 8, .p 9, .p 10, .p 11, .s 12 [5,0,1,2,3,4], .p 13] (by kernel_rfl) ?_
     ((conv => whnf); repeat' (refine Z rfl ?_; conv => whnf))
     repeat' ((first | (intro hlq; (try simp only [SL] at hlq)) | refine ⟨fun _ _ => i64 (by omega) (by omega), ?_⟩ | refine Ks ?_ | refine Kq ?_ | refine Kt ?_ | ((refine Kh (fun hb => ?_) fun hb => ?_) <;> (try simp only [BL] at hb)) | refine Ka ?_ | refine Kb ?_ | refine Kc (hd := rfl) (e := ?_) | refine Kc (hd := icells_eq _) (e := ?_) | refine Kd (e := ?_) | refine Kl rfl ?_ | fail) <;> ((conv => whnf); repeat' (refine Z rfl ?_; conv => whnf)))
     exact ⟨rfl⟩
/-- what a reader begins with -/
def begB (q : Nat) (c : UInt8) (t : List UInt8) : Bool := match q with
 | 0 => isLt c
 | 1 => isDg c || (c == 45 && hdDg t)
 | 2 => c == 34
 | 3 => dblB c t
 | 4 => sgB c
 | _ => true
abbrev rdrs : List (List D) := [[.fn 60 [] [], .fn 61 [] []], [.fn 64 [] [], .fn 65 [] []], [.fn 66 [] [], .fn 67 [] []], [.fn 69 [] [], .fn 71 [] []], [.fn 72 [] [], .fn 73 [] []], [.fn 74 [] [], .fn 75 [] []]]
theorem reader_at (hT : TimeOk) (src : List UInt8) (a q : Nat) (ha : a < src.length) (hl : src.length ≤ 65536) (hq : q < 6) (hp : ∀ p < q, begB p src[a] (src.drop (a + 1)) = false) :
 ∃ F G, rdrs[((q : Nat) : Int).toNat]? = some [.fn F [] [], .fn G [] []] ∧ (Meets Tryz.prog F [scP src a] fun d => d = bD (begB q src[a] (src.drop (a + 1)))) ∧
   (begB q src[a] (src.drop (a + 1)) = true → Meets Tryz.prog G [scP src a] fun d => d = rdD a (readT (src.drop a))) := by
 have hd := List.drop_eq_getElem_cons ha
 match q, hq with
 | 0, _ => exact ⟨60, 61, rfl, b60_meets src a ha, fun h => r61_meets src a ha h⟩
 | 1, _ => exact ⟨64, 65, rfl, b64_meets src a ha (by omega), fun h => r65_meets hT src a ha hl (hp 0 (by omega)) h⟩
 | 2, _ => exact ⟨66, 67, rfl, b66_meets src a ha, fun h => r67_meets src a ha hl (by simpa [begB] using h)⟩
 | 3, _ =>
   refine ⟨69, 71, rfl, b69_meets src a ha (by omega), fun h => ?_⟩
   have h0 := hp 0 (by omega)
   have h1 := hp 1 (by omega)
   have h2 := hp 2 (by omega)
   simp only [begB] at h h0 h1 h2
   have hlen : a + 2 ≤ src.length := by
    by_cases hlt : a + 1 < src.length
    · omega
    · rw [List.drop_eq_nil_of_le (by omega)] at h; cases h
   have hr : readT (src.drop a) = (5, (src.drop a).take 2, 2) := by
    rw [hd, readT, h0, if_neg (by decide), h1, if_neg (by decide), if_neg (by simpa using h2), if_pos h]
   rw [hr]
   exact r71_meets src a hlen (by omega)
 | 4, _ =>
   refine ⟨72, 73, rfl, b72_meets src a ha, fun h => ?_⟩
   have h0 := hp 0 (by omega)
   have h1 := hp 1 (by omega)
   have h2 := hp 2 (by omega)
   have h3 := hp 3 (by omega)
   simp only [begB] at h h0 h1 h2 h3
   have hr : readT (src.drop a) = (5, [src[a]], 1) := by
    rw [hd, readT, h0, if_neg (by decide), h1, if_neg (by decide), if_neg (by simpa using h2), h3, if_neg (by decide), if_pos h]
   rw [hr]
   exact r73_meets src a ha (by omega)
 | 5, _ =>
   refine ⟨74, 75, rfl, b74_meets src a, fun h => ?_⟩
   have h0 := hp 0 (by omega)
   have h1 := hp 1 (by omega)
   have h2 := hp 2 (by omega)
   have h3 := hp 3 (by omega)
   have h4 := hp 4 (by omega)
   simp only [begB] at h h0 h1 h2 h3 h4
   have hr : readT (src.drop a) = (0, [], 1) := by
    rw [hd, readT, h0, if_neg (by decide), h1, if_neg (by decide), if_neg (by simpa using h2), h3, if_neg (by decide), h4, if_neg (by decide)]
   rw [hr]
   exact r75_meets src a ha (by omega)
end Go.Proofs.YtedjnaggkakphaaGreatDoor.Dx
/- The scanner's box is made. -/
namespace Go.Proofs.YtedjnaggkakphaaGreatDoor.Dx
open Go Go.RowKit Go.Proofs
set_option maxRecDepth 100000
set_option maxHeartbeats 1000000
abbrev scB (src : List UInt8) (a : Int) : List Base := .d (.sl (byteCells src)) :: iB a :: tabB cls
theorem sc_map (src : List UInt8) (a : Int) : (scC src a).map Base.d = scB src a := by
 show _ :: _ :: (tabD cls).map Base.d = _
 rw [tabD_map]
theorem setRun_tail {α : Type} (x y : α) (tb zs : List α) (h : tb.length = zs.length) : setRun (x :: y :: zs) 2 tb = x :: y :: tb := by
 apply List.ext_getElem?
 intro j
 rw [setRun_get tb (x :: y :: zs) 2 j (by simp; omega)]
 match j with
 | 0 => simp
 | 1 => simp
 | j + 2 =>
   by_cases hj : j < tb.length
   · rw [if_pos (by omega)]; simp
   · rw [if_neg (by omega)]
     simp only [List.getElem?_cons_succ]
     rw [List.getElem?_eq_none (by omega), List.getElem?_eq_none (by omega)]
theorem fill_scan (xs : List (List D)) (tb : List D) (htl : tb.length = 256) : fillD (fun i => (([(0, 1), (1, 1), (2, 256)] : List (Nat × Nat)).drop i).head?) (.sl [] :: iD 0 :: List.replicate 256 (cD 0)) [(0, .sl xs), (2, .agg tb)] = some (.sl xs :: iD 0 :: tb) := by
 have h1 : fillD (fun i => (([(0, 1), (1, 1), (2, 256)] : List (Nat × Nat)).drop i).head?) (.sl [] :: iD 0 :: List.replicate 256 (cD 0)) [(0, .sl xs), (2, .agg tb)] = fillD (fun i => (([(0, 1), (1, 1), (2, 256)] : List (Nat × Nat)).drop i).head?) (.sl xs :: iD 0 :: List.replicate 256 (cD 0)) [(2, .agg tb)] := by
  rw [fillD]
  rfl
 rw [h1]
 unfold fillD
 dsimp only [dCells, List.drop, List.head?]
 rw [htl]
 show fillD _ (setRun _ 2 tb) [] = _
 rw [setRun_tail _ _ _ _ (by rw [htl, List.length_replicate])]
 rfl
theorem build_scan (xs : List (List D)) (tb : List D) (htl : tb.length = 256) (kd : D → Prop) (h : kd (.agg (.sl xs :: iD 0 :: tb))) : pureD T (.build 53 #[(0, .tmp 15), (2, .tmp 16)]) [.sl xs, .agg tb] kd := by
 obtain ⟨ti, hti⟩ : ∃ ti, look 53 T = some ti := ⟨_, rfl⟩
 obtain ⟨fs, hfs⟩ : ∃ fs, ti.desc = .struct fs := by cases hti; exact ⟨_, rfl⟩
 have hz : litDs (cellsL ti.zero) = some (.sl [] :: iD 0 :: List.replicate 256 (cD 0)) := by cases hti; kernel_rfl
 have hp : fieldPlaces T fs.toList = some [(0, 1), (1, 1), (2, 256)] := by cases hti; cases hfs; kernel_rfl
 unfold pureD
 simp only [hti, hz, hfs, hp]
 show match fillD _ _ [(0, D.sl xs), (2, D.agg tb)] with | some r => kd (.agg r) | none => False
 rw [fill_scan xs tb htl]
 exact h
theorem tabB_clear (n : Nat) (f : Nat → Int) : (tabB f).any (ment n) = false := by
 rw [List.any_eq_false]
 intro b hb
 obtain ⟨d, _, rfl⟩ := List.mem_map.1 hb
 simp [ment]
theorem box_scan {cf : Cfg} {xs : List UInt8} {st : SSt} {k : SSt → Prop} (hO : st.O = []) (hnm : cf.nm = []) (hc : clearOf 18 st = true) (h : k (put { st with O := [(18, .box (scB xs 0) 53)] } (some 18) (.loc 18 0))) :
 newBox cf.nm st (some 18) 53 (scB xs 0) k := by
 unfold newBox
 dsimp only
 rw [hnm]
 show match clearOf 18 st && !(scB xs 0).any (ment 18) with | false => False | true => _
 have e : (scB xs 0).any (ment 18) = false := by
  show (false || (false || (tabB cls).any (ment 18))) = false
  rw [tabB_clear]; rfl
 rw [hc, e]
 show k (put { st with O := (18, .box (scB xs 0) 53) :: st.O } _ _)
 rw [hO]
 exact h
theorem boxS_scan {cf : Cfg} {xs : List UInt8} {st : SSt} {k : SSt → Prop} {kp : D → SSt → Prop} (hO : st.O = []) (hnm : cf.nm = []) (hc : clearOf 18 st = true) (h : k (put { st with O := [(18, .box (scB xs 0) 53)] } (some 18) (.loc 18 0))) :
 vcS Tryz.prog T cf (.box 53 (.tmp 17)) (some 18) [.d (.agg (.sl (byteCells xs) :: iD 0 :: tabD cls))] st k kp := by
 obtain ⟨ti, hti⟩ : ∃ ti, look 53 T = some ti := ⟨_, rfl⟩
 have hs : ti.size = 258 := by cases hti; rfl
 unfold vcS
 simp only [hti]
 show match cellsB st.O (.d (.agg (.sl (byteCells xs) :: iD 0 :: tabD cls))) with | some cs => (match Nat.beq cs.length ti.size with | true => forceBs cs fun cs => newBox cf.nm st (some 18) 53 cs k | false => False) | none => False
 have e : cellsB st.O (.d (.agg (.sl (byteCells xs) :: iD 0 :: tabD cls))) = some (scB xs 0) := by
  show some ((scC xs 0).map Base.d) = _
  rw [sc_map]
 have hl : (scB xs 0).length = 258 := by
  show (tabB cls).length + 1 + 1 = 258
  rw [tab_len]
 rw [e]
 dsimp only
 rw [hl, hs]
 show forceBs (scB xs 0) _
 rw [forceBs_eq]
 exact box_scan hO hnm hc h
/-- the region that makes the box, behind the call -/
theorem vcOp_at {P : Program} {T : List (Nat × TI)} {N : Nat} {cf : Cfg} {all : Array Oper} {o : Oper} {st : SSt} {k : SSt → Prop} {kp : D → SSt → Prop} {d : Nat} (hd : o.dst = some d) (hN : Nat.blt d N = true) (hg : o.guard = none)
 (h : getBs st o.op.operands.toList fun bs => vcS P T cf o.op (some d) bs st k kp) : vcOp P T N cf all o st k kp := by
 obtain ⟨dst, op, ty, pos, af, gd⟩ := o
 cases hd
 cases hg
 unfold vcOp
 dsimp only
 rw [hN]
 exact h
theorem getBs_one {st : SSt} {t : Nat} {b : Base} {k : List Base → Prop} (h : look t st.L = some b) (hk : k [b]) : getBs st [.tmp t] k := by
 unfold getBs getB
 dsimp only
 rw [h]
 exact hk
theorem region_scan {cf : Cfg} {all : Array Oper} {kp : D → SSt → Prop} {k : SSt → Prop} {xs : List UInt8} {tb : List D} (htb : tb = tabD cls) {L : List (Nat × Base)} {p : List Nat} {y1 y2 y3 : TypeId} {p1 p2 p3 : String} {a1 a2 a3 : Array Edge} (hnm : cf.nm = []) (hpr : memB 17 cf.priv = false)
 (h16 : look 16 L = some (.d (.agg tb))) (h15 : look 15 L = some (.d (.sl (byteCells xs)))) (hc : clearOf 18 ⟨(17, .d (.agg (.sl (byteCells xs) :: iD 0 :: tb))) :: L, [], p⟩ = true)
 (h : k ⟨(5, .loc 18 0) :: (18, .loc 18 0) :: (17, .d (.agg (.sl (byteCells xs) :: iD 0 :: tb))) :: L, [(18, .box (scB xs 0) 53)], p⟩) :
 vcOps Tryz.prog T 130 cf all kp [⟨some 17, .build 53 #[(0, .tmp 15), (2, .tmp 16)], y1, p1, a1, none⟩, ⟨some 18, .box 53 (.tmp 17), y2, p2, a2, none⟩, ⟨some 5, .assign (.tmp 18), y3, p3, a3, none⟩] ⟨L, [], p⟩ k := by
 unfold vcOps
 refine vcOp_at rfl rfl rfl ?_
 show getB _ (.tmp 15) fun b => getB _ (.tmp 16) fun b' => _
 unfold getB
 dsimp only
 rw [h15, h16]
 dsimp only
 unfold vcS
 dsimp only
 rw [hpr]
 have hv : valBs [] [Base.d (D.sl (byteCells xs)), Base.d (D.agg tb)] = some [D.sl (byteCells xs), D.agg tb] := rfl
 simp only [List.map_nil, getBs]
 rw [hv]
 dsimp only
 unfold vcP
 simp only [needsD]
 rw [hv]
 dsimp only
 unfold vcV
 dsimp only
 unfold pureV
 rw [hv]
 show pureD T (.build 53 #[(0, .tmp 15), (2, .tmp 16)]) [.sl (byteCells xs), .agg tb] _
 refine build_scan _ _ (by rw [htb]; exact tabD_len cls) _ ?_
 show normS _ _
 rw [normS_eq]
 unfold vcOps
 refine vcOp_at rfl rfl rfl (getBs_one (t := 17) rfl ?_)
 subst htb
 refine boxS_scan rfl hnm hc ?_
 rw [normS_eq]
 unfold vcOps
 refine vcOp_at rfl rfl rfl (getBs_one (t := 18) rfl ?_)
 unfold vcS
 dsimp only
 unfold vcP
 simp only [needsD]
 unfold vcV
 dsimp only
 rw [normS_eq]
 exact h
theorem SubBs_sc (O : List (Nat × Blk)) (src : List UInt8) (a : Int) : SubBs O (scB src a) (scB src a) := ⟨rfl, rfl, SubBs_tab _ _⟩
theorem lent_sc {F : FuncId} {ds : List D} {R : D → Prop} {src : List UInt8} {a : Int} {bs : List Base} (h : Meets Tryz.prog F ds R) (hl : lentBs 18 (scC src a) bs = some ds) (hk : ∀ d, R d → flatD d = true) :
 MeetsR Tryz.prog F bs [(18, .box (scB src a) 53)] fun o O' => ∃ d, o = .ret (.d d) ∧ O' = [(18, .box (scB src a) 53)] ∧ R d := by
 rw [← sc_map]
 exact lent_meets h [(18, .box ((scC src a).map .d) 53)] rfl hl hk
theorem closedR_sc (d : D) (src : List UInt8) (a : Int) : closedR (.d d) [(18, .box (scB src a) 53)] = true := by
 rw [← sc_map]; exact closedR_dd _ _ _ _
end Go.Proofs.YtedjnaggkakphaaGreatDoor.Dx
