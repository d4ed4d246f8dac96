/- Same, SameProblems, Alike; Join at one token and at nil. -/
import Derived.Test.YtedjnaggkakphaaGreatDoorDw
import Derived.Test.YtedjnaggkakphaaGreatDoorDs
import Derived.Test.YtedjnaggkakphaaGreatDoorDn
set_option linter.all false
namespace Go.Proofs.YtedjnaggkakphaaGreatDoor.Dx
open Go Go.RowKit Go.Proofs
set_option maxRecDepth 100000
set_option maxHeartbeats 1000000
theorem Join_nil : Meets Tryz.prog 17 [.sl []] fun d => d = .tup [.sl [], iD 1] := by
 refine enter tok {} Tryz.func17 rfl (by kernel_rfl) Tryz.ntmps17 (by simp) fun B0 W0 V0 lent g0 => ?_
 ((conv => whnf); repeat' (refine Z rfl ?_; conv => whnf))
 repeat' ((first | (intro hlq; (try simp only [SL] at hlq)) | refine Ks ?_ | refine Kq ?_ | refine Kt ?_ | ((refine Kh (fun hb => ?_) fun hb => ?_) <;> (try simp only [BL] at hb)) | refine Ka ?_ | refine Kb ?_ | refine Kc (hd := rfl) (e := ?_) | refine Kc (hd := icells_eq _) (e := ?_) | refine Kd (e := ?_) | refine Kl rfl ?_ | fail) <;> ((conv => whnf); repeat' (refine Z rfl ?_; conv => whnf)))
 all_goals first
  | exact ⟨rfl⟩
  | contradiction
  | (exfalso; simp at *; done)
theorem Join_end : Meets Tryz.prog 17 [.sl [[iD 6, .str [], iD 0]]] fun d => d = .tup [.sl [], iD 0] := by
 refine enter tok {} Tryz.func17 rfl (by kernel_rfl) Tryz.ntmps17 (by simp) fun B0 W0 V0 lent g0 => ?_
 ((conv => whnf); repeat' (refine Z rfl ?_; conv => whnf))
 repeat' ((first | (intro hlq; (try simp only [SL] at hlq)) | refine ⟨[iD 6, .str [], iD 0], ⟨by decide, rfl, rfl⟩, ?_⟩ | refine ⟨fun _ => ⟨by decide, by decide, by decide, by intro ds h; rw [List.mem_singleton.1 h]; rfl⟩, ?_⟩ | refine Ks ?_ | refine Kq ?_ | refine Kt ?_ | ((refine Kh (fun hb => ?_) fun hb => ?_) <;> (try simp only [BL] at hb)) | refine Ka ?_ | refine Kb ?_ | refine Kc (hd := rfl) (e := ?_) | refine Kc (hd := icells_eq _) (e := ?_) | refine Kd (e := ?_) | refine Kl rfl ?_ | fail) <;> ((conv => whnf); repeat' (refine Z rfl ?_; conv => whnf)))
 all_goals try first
  | contradiction
  | (exfalso; simp at *; done)
 refine loop_upd tok {} [] (X := Unit) (fun _ => [(34, iB 0), (2, .full [])]) (fun _ => []) [] (fun _ => True) (fun _ => 0) () ?_
 ((conv => whnf); repeat' (refine Z rfl ?_; conv => whnf))
 refine And.intro ?_ ⟨True.intro, fun _ _ => ?_⟩
 · exact Kr
 ((conv => whnf); repeat' (refine Z rfl ?_; conv => whnf))
 refine ⟨fun h => ?_, fun h => ?_⟩ <;> (try simp only [BL] at h) <;> ((conv => whnf); repeat' (refine Z rfl ?_; conv => whnf))
 · exfalso
   revert h; decide
 repeat' ((first | (intro hlq; (try simp only [SL] at hlq)) | refine Ks ?_ | refine Kq ?_ | refine Kt ?_ | ((refine Kh (fun hb => ?_) fun hb => ?_) <;> (try simp only [BL] at hb)) | refine Ka ?_ | refine Kb ?_ | refine Kc (hd := rfl) (e := ?_) | refine Kc (hd := icells_eq _) (e := ?_) | refine Kd (e := ?_) | refine Kl rfl ?_ | fail) <;> ((conv => whnf); repeat' (refine Z rfl ?_; conv => whnf)))
 all_goals first
  | exact ⟨rfl⟩
  | (exfalso; revert hb; decide)
theorem tkC_inj {x y : Tk} : tkC x = tkC y ↔ x = y := by
 obtain ⟨a, b, c⟩ := x
 obtain ⟨d, e, f⟩ := y
 simp only [tkC, List.cons.injEq, D.v.injEq, Value.int.injEq, true_and, and_true, D.str.injEq, Tk.mk.injEq]
 constructor
 · rintro ⟨h1, h2, h3⟩; exact ⟨by omega, h2, by omega⟩
 · rintro ⟨rfl, rfl, rfl⟩; exact ⟨rfl, rfl, rfl⟩
theorem Same_meets (xs ys : List Tk) (h1 : xs.length ≤ 1048576) (h2 : ys.length ≤ 1048576) : Meets Tryz.prog 14 [.sl (xs.map tkC), .sl (ys.map tkC)] fun d => d = bD (decide (xs = ys)) := by
 refine enter tok {} Tryz.func14 rfl (by kernel_rfl) Tryz.ntmps14 (by simp) fun B0 W0 V0 lent g0 => ?_
 ((conv => whnf); repeat' (refine Z rfl ?_; conv => whnf))
 repeat' ((first | (intro hlq; (try simp only [SL] at hlq)) | refine Ks ?_ | refine Kq ?_ | refine Kt ?_ | refine Ka ?_ | refine Kb ?_ | refine Kc (hd := rfl) (e := ?_) | refine Kc (hd := icells_eq _) (e := ?_) | refine Kd (e := ?_) | refine Kl rfl ?_ | fail) <;> ((conv => whnf); repeat' (refine Z rfl ?_; conv => whnf)))
 refine ⟨fun h0 => ?_, fun h0 => ?_⟩ <;> (try simp only [BL] at h0) <;> ((conv => whnf); repeat' (refine Z rfl ?_; conv => whnf))
 · refine ⟨congrArg bD ?_⟩
   rw [decide_eq_false]
   rintro rfl
   exact h0 rfl
 have hlen : xs.length = ys.length := by omega
 refine loop_upd tok {} [] (X := Nat) (fun i => [(5, iB i)]) (fun _ => []) [] (fun i => i ≤ xs.length ∧ xs.take i = ys.take i) (fun i => xs.length - i) 0 ?_
 ((conv => whnf); repeat' (refine Z rfl ?_; conv => whnf))
 refine And.intro ?_ ⟨⟨by omega, rfl⟩, fun i hΦ => ?_⟩
 · exact Kr
 obtain ⟨hi, he⟩ := hΦ
 ((conv => whnf); repeat' (refine Z rfl ?_; conv => whnf))
 repeat' ((first | (intro hlq; (try simp only [SL] at hlq)) | refine Ks ?_ | refine Kq ?_ | refine Kt ?_ | refine Ka ?_ | refine Kb ?_ | refine Kc (hd := rfl) (e := ?_) | refine Kc (hd := icells_eq _) (e := ?_) | refine Kd (e := ?_) | refine Kl rfl ?_ | fail) <;> ((conv => whnf); repeat' (refine Z rfl ?_; conv => whnf)))
 refine ⟨fun h3 => ?_, fun h3 => ?_⟩ <;> (try simp only [BL] at h3) <;> ((conv => whnf); repeat' (refine Z rfl ?_; conv => whnf))
 · have hx : i < xs.length := by omega
   have hy : i < ys.length := by omega
   refine draw_rule tok (cf := {}) (by kernel_rfl) [.p 0, .p 1, .p 2, .p 3, .p 4, .p 5, .p 6, .p 7, .p 8] (by kernel_rfl) ?_
   ((conv => whnf); repeat' (refine Z rfl ?_; conv => whnf))
   repeat' ((first | (intro hlq; (try simp only [SL] at hlq)) | refine Ks ?_ | refine Kq ?_ | refine Kt ?_ | refine Ka ?_ | refine Kb ?_ | refine Kc (hd := rfl) (e := ?_) | refine Kc (hd := icells_eq _) (e := ?_) | refine Kd (e := ?_) | refine Kl rfl ?_ | fail) <;> ((conv => whnf); repeat' (refine Z rfl ?_; conv => whnf)))
   refine ⟨⟨⟨_, by simp [KScL, KSc], rfl⟩, ⟨_, by simp [KScL, KSc], rfl⟩⟩, ?_⟩
   ((conv => whnf); repeat' (refine Z rfl ?_; conv => whnf))
   repeat' ((first | (intro hlq; (try simp only [SL] at hlq)) | refine Ks ?_ | refine Kq ?_ | refine Kt ?_ | ((refine Kh (fun hb => ?_) fun hb => ?_) <;> (try simp only [BL] at hb)) | refine Ka ?_ | refine Kb ?_ | refine Kc (hd := rfl) (e := ?_) | refine Kc (hd := icells_eq _) (e := ?_) | refine Kd (e := ?_) | refine Kl rfl ?_ | fail) <;> ((conv => whnf); repeat' (refine Z rfl ?_; conv => whnf)))
   · refine ⟨congrArg bD ?_⟩
     rw [decide_eq_false]
     rintro rfl
     exact (by assumption : _ ≠ _) rfl
   · refine ⟨⟨i + 1, ?_, ⟨by omega, ?_⟩, by omega⟩⟩
     · exact Kr
     · rw [List.take_succ_eq_append_getElem hx, List.take_succ_eq_append_getElem hy, he, show xs[i] = ys[i] from tkC_inj.1 (Classical.not_not.1 (by assumption))]
 · refine ⟨congrArg bD ?_⟩
   rw [List.take_of_length_le (by omega), List.take_of_length_le (by omega)] at he
   rw [he]; simp
theorem SameP_meets (xs ys : List Nat) (h1 : xs.length ≤ 1048576) (h2 : ys.length ≤ 1048576) : Meets Tryz.prog 15 [.sl (xs.map prC), .sl (ys.map prC)] fun d => d = bD (decide (xs = ys)) := by
 refine enter tok {} Tryz.func15 rfl (by kernel_rfl) Tryz.ntmps15 (by simp) fun B0 W0 V0 lent g0 => ?_
 ((conv => whnf); repeat' (refine Z rfl ?_; conv => whnf))
 repeat' ((first | (intro hlq; (try simp only [SL] at hlq)) | refine Ks ?_ | refine Kq ?_ | refine Kt ?_ | refine Ka ?_ | refine Kb ?_ | refine Kc (hd := rfl) (e := ?_) | refine Kc (hd := icells_eq _) (e := ?_) | refine Kd (e := ?_) | refine Kl rfl ?_ | fail) <;> ((conv => whnf); repeat' (refine Z rfl ?_; conv => whnf)))
 refine ⟨fun h0 => ?_, fun h0 => ?_⟩ <;> (try simp only [BL] at h0) <;> ((conv => whnf); repeat' (refine Z rfl ?_; conv => whnf))
 · refine ⟨congrArg bD ?_⟩
   rw [decide_eq_false]
   rintro rfl
   exact h0 rfl
 have hlen : xs.length = ys.length := by omega
 refine loop_upd tok {} [] (X := Nat) (fun i => [(5, iB i)]) (fun _ => []) [] (fun i => i ≤ xs.length ∧ xs.take i = ys.take i) (fun i => xs.length - i) 0 ?_
 ((conv => whnf); repeat' (refine Z rfl ?_; conv => whnf))
 refine And.intro ?_ ⟨⟨by omega, rfl⟩, fun i hΦ => ?_⟩
 · exact Kr
 obtain ⟨hi, he⟩ := hΦ
 ((conv => whnf); repeat' (refine Z rfl ?_; conv => whnf))
 repeat' ((first | (intro hlq; (try simp only [SL] at hlq)) | refine Ks ?_ | refine Kq ?_ | refine Kt ?_ | refine Ka ?_ | refine Kb ?_ | refine Kc (hd := rfl) (e := ?_) | refine Kc (hd := icells_eq _) (e := ?_) | refine Kd (e := ?_) | refine Kl rfl ?_ | fail) <;> ((conv => whnf); repeat' (refine Z rfl ?_; conv => whnf)))
 refine ⟨fun h3 => ?_, fun h3 => ?_⟩ <;> (try simp only [BL] at h3) <;> ((conv => whnf); repeat' (refine Z rfl ?_; conv => whnf))
 · have hx : i < xs.length := by omega
   have hy : i < ys.length := by omega
   refine draw_rule tok (cf := {}) (by kernel_rfl) [.p 0, .p 1, .p 2, .p 3, .p 4, .p 5, .p 6, .p 7, .p 8] (by kernel_rfl) ?_
   ((conv => whnf); repeat' (refine Z rfl ?_; conv => whnf))
   repeat' ((first | (intro hlq; (try simp only [SL] at hlq)) | refine Ks ?_ | refine Kq ?_ | refine Kt ?_ | refine Ka ?_ | refine Kb ?_ | refine Kc (hd := rfl) (e := ?_) | refine Kc (hd := icells_eq _) (e := ?_) | refine Kd (e := ?_) | refine Kl rfl ?_ | fail) <;> ((conv => whnf); repeat' (refine Z rfl ?_; conv => whnf)))
   refine ⟨⟨⟨[(xs[i] : Int), 50], rfl, rfl⟩, ⟨[(ys[i] : Int), 50], rfl, rfl⟩⟩, ?_⟩
   ((conv => whnf); repeat' (refine Z rfl ?_; conv => whnf))
   repeat' ((first | (intro hlq; (try simp only [SL] at hlq)) | refine Ks ?_ | refine Kq ?_ | refine Kt ?_ | ((refine Kh (fun hb => ?_) fun hb => ?_) <;> (try simp only [BL] at hb)) | refine Ka ?_ | refine Kb ?_ | refine Kc (hd := rfl) (e := ?_) | refine Kc (hd := icells_eq _) (e := ?_) | refine Kd (e := ?_) | refine Kl rfl ?_ | fail) <;> ((conv => whnf); repeat' (refine Z rfl ?_; conv => whnf)))
   · refine ⟨congrArg bD ?_⟩
     rw [decide_eq_false]
     rintro rfl
     exact (by assumption : _ ≠ _) rfl
   · refine ⟨⟨i + 1, ?_, ⟨by omega, ?_⟩, by omega⟩⟩
     · exact Kr
     · rw [List.take_succ_eq_append_getElem hx, List.take_succ_eq_append_getElem hy, he, show xs[i] = ys[i] from by
        have h9 := Classical.not_not.1 (by assumption : ¬ ([(xs[i] : Int), 50] ≠ [(ys[i] : Int), 50]))
        have h10 := List.head_eq_of_cons_eq h9
        omega]
 · refine ⟨congrArg bD ?_⟩
   rw [List.take_of_length_le (by omega), List.take_of_length_le (by omega)] at he
   rw [he]; simp
end Go.Proofs.YtedjnaggkakphaaGreatDoor.Dx
/- The chapter's examples: sane. -/
namespace Go.Proofs.YtedjnaggkakphaaGreatDoor.Dx
open Go Go.RowKit Go.Proofs
set_option maxRecDepth 100000
set_option maxHeartbeats 1000000
theorem tok1 : toks [48, 58, 51, 48, 46, 46, 45, 53] 0 = [⟨3, [48, 58, 51, 48], 0⟩, ⟨5, [46, 46], 4⟩, ⟨2, [45, 53], 6⟩, ⟨6, [], 8⟩] ∧ bads [48, 58, 51, 48, 46, 46, 45, 53] 0 (-1) 0 = [] := by decide +kernel
theorem tok2 : toks [48, 48, 55, 37, 36] 0 = [⟨6, [], 5⟩] ∧ bads [48, 48, 55, 37, 36] 0 (-1) 0 = [0] := by decide +kernel
theorem tok3 : toks [34, 97, 92, 34, 98, 34] 0 = [⟨4, [97, 34, 98], 0⟩, ⟨6, [], 6⟩] ∧ bads [34, 97, 92, 34, 98, 34] 0 (-1) 0 = [] := by decide +kernel
theorem tok4 : toks [34, 97] 0 = [⟨1, [97], 1⟩, ⟨6, [], 2⟩] ∧ bads [34, 97] 0 (-1) 0 = [0] := by decide +kernel
theorem tim1 : timeN [49, 58, 48, 50, 58, 48, 51, 46, 53] = some 3723500000 ∧ timeN [54, 50, 58, 48, 51, 46, 53, 48] = some 3723500000 ∧ timeN [49, 50] = none := by decide +kernel
theorem tim2 : timeS 5000 = [48, 58, 48, 48, 46, 48, 48, 53] ∧ timeS (-90000000) = [45, 49, 58, 51, 48] ∧ timeE 5000 = 0 ∧ timeE (-90000000) = 0 := by decide +kernel
theorem kwc : kw [99, 111, 117, 114, 115, 101] = true ∧ kw [67, 111, 117, 114, 115, 101] = false := by decide +kernel
theorem cTok_at {src : List UInt8} {t : List Tk} {b : List Nat} (hl : src.length ≤ 65536) (h : toks src 0 = t ∧ bads src 0 (-1) 0 = b) : Meets Tryz.prog 12 [.sl (byteCells src)] fun d => d = .tup [.sl (t.map tkC), .sl (b.map prC), iD 0] := by
 have := cTokens_meets cTime_meets src hl
 rw [tokD, h.1, h.2] at this
 exact this
theorem cTime_at {s : List UInt8} {d : D} (hl : s.length ≤ 1048576) (h : timeD s = d) : Meets Tryz.prog 22 [.str s] fun r => r = d := by
 rw [← h]; exact cTime_meets s hl
theorem sane_meets : Meets Tryz.prog 11 [] fun r => r = bD true := by
 have a1 : Meets Tryz.prog 12 [.sl (byteCells [48, 58, 51, 48, 46, 46, 45, 53])] _ := cTok_at (by decide) tok1
 have a2 : Meets Tryz.prog 12 [.sl (byteCells [48, 48, 55, 37, 36])] _ := cTok_at (by decide) tok2
 have a3 : Meets Tryz.prog 12 [.sl (byteCells [34, 97, 92, 34, 98, 34])] _ := cTok_at (by decide) tok3
 have a4 : Meets Tryz.prog 12 [.sl (byteCells [34, 97])] _ := cTok_at (by decide) tok4
 have b1 : Meets Tryz.prog 22 [.str [49, 58, 48, 50, 58, 48, 51, 46, 53]] fun r => r = .tup [iD 3723500000, .v (.int .i64 0)] := cTime_at (by decide) (by rw [timeD, tim1.1])
 have b2 : Meets Tryz.prog 22 [.str [54, 50, 58, 48, 51, 46, 53, 48]] fun r => r = .tup [iD 3723500000, .v (.int .i64 0)] := cTime_at (by decide) (by rw [timeD, tim1.2.1])
 have b3 : Meets Tryz.prog 22 [.str [49, 50]] fun r => r = .tup [iD 0, .v (.int .i64 50)] := cTime_at (by decide) (by rw [timeD, tim1.2.2])
 have c1 : Meets Tryz.prog 24 [iD 5000] fun r => r = .tup [.str [48, 58, 48, 48, 46, 48, 48, 53], iD 0] := by
  have := TimeText_meets 5000
  rw [tim2.1, tim2.2.2.1] at this
  exact this
 have c2 : Meets Tryz.prog 24 [iD (-90000000)] fun r => r = .tup [.str [45, 49, 58, 51, 48], iD 0] := by
  have := TimeText_meets (-90000000)
  rw [tim2.2.1, tim2.2.2.2] at this
  exact this
 have d1 : Meets Tryz.prog 14 [.sl ([⟨3, [48, 58, 51, 48], 0⟩, ⟨5, [46, 46], 4⟩, ⟨2, [45, 53], 6⟩, ⟨6, [], 8⟩].map tkC), .sl ([⟨3, [48, 58, 51, 48], 0⟩, ⟨5, [46, 46], 4⟩, ⟨2, [45, 53], 6⟩, ⟨6, [], 8⟩].map tkC)] fun d => d = .bl true := by
  have := (Same_meets [⟨3, [48, 58, 51, 48], 0⟩, ⟨5, [46, 46], 4⟩, ⟨2, [45, 53], 6⟩, ⟨6, [], 8⟩] [⟨3, [48, 58, 51, 48], 0⟩, ⟨5, [46, 46], 4⟩, ⟨2, [45, 53], 6⟩, ⟨6, [], 8⟩] (by decide) (by decide)).bl
  rw [decide_eq_true rfl] at this
  exact this
 have d2 : Meets Tryz.prog 15 [.sl ([0].map prC), .sl ([0].map prC)] fun d => d = .bl true := by
  have := (SameP_meets [0] [0] (by decide) (by decide)).bl
  rw [decide_eq_true rfl] at this
  exact this
 have e1 : Meets Tryz.prog 19 [.str [99, 111, 117, 114, 115, 101]] fun d => d = .bl true := by
  have := (Keyword_meets [99, 111, 117, 114, 115, 101] (by decide)).bl
  rw [kwc.1] at this
  exact this
 have e2 : Meets Tryz.prog 19 [.str [67, 111, 117, 114, 115, 101]] fun d => d = .bl false := by
  have := (Keyword_meets [67, 111, 117, 114, 115, 101] (by decide)).bl
  rw [kwc.2] at this
  exact this
 refine enter tok {priv := [28, 35, 42, 49]} Tryz.func11 rfl (by kernel_rfl) Tryz.ntmps11 (by simp) fun B0 W0 V0 lent g0 => ?_
 ((conv => whnf); repeat' (refine vcC_go tok {priv := [28, 35, 42, 49]} rfl ?_; conv => whnf))
 repeat' ((first | (intro hlq; (try simp only [SL] at hlq)) | refine Meets.k (a1) ?_ | refine Meets.k (a2) ?_ | refine Meets.k (a3) ?_ | refine Meets.k (a4) ?_ | refine Meets.k (Join_end) ?_ | refine Meets.k (Join_nil) ?_ | refine Meets.k (b1) ?_ | refine Meets.k (b2) ?_ | refine Meets.k (b3) ?_ | refine Meets.k (c1) ?_ | refine Meets.k (c2) ?_ | refine Meets.k (d1) ?_ | refine Meets.k (d2) ?_ | refine Meets.k (e1) ?_ | refine Meets.k (e2) ?_ | refine ⟨_, ⟨by decide, rfl, rfl⟩, ?_⟩ | refine Ks ?_ | refine Kq ?_ | refine Kt ?_ | ((refine Kh (fun hb => ?_) fun hb => ?_) <;> (try simp only [BL] at hb)) | refine Ka ?_ | refine Kb ?_ | refine Kc (hd := rfl) (e := ?_) | refine Kc (hd := icells_eq _) (e := ?_) | refine Kd (e := ?_) | refine Kl rfl ?_ | fail) <;> ((conv => whnf); repeat' (refine vcC_go tok {priv := [28, 35, 42, 49]} rfl ?_; conv => whnf)))
 all_goals first
  | exact ⟨rfl⟩
  | contradiction
end Go.Proofs.YtedjnaggkakphaaGreatDoor.Dx
