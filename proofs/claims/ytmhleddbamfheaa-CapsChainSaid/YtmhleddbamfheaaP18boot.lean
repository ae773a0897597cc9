import Derived.Test.YtmhleddbamfheaaP18g
import Derived.Test.YtmhleddbamfheaaGlue18
set_option linter.unusedVariables false
set_option linter.unusedSimpArgs false
namespace Go.G
set_option maxRecDepth 1000000
def bootL : List Cap18 := [⟨1, 0, 0, 1, 3, 1⟩, ⟨2, 0, 0, 1, 4, 1⟩, ⟨3, 0, 0, 1, 5, 1⟩, ⟨4, 0, 0, 1, 10, 1⟩, ⟨5, 0, 0, 1, 2, 6⟩, ⟨6, 5, 1, 1, 2, 6⟩, ⟨7, 0, 0, 1, 3, 6⟩, ⟨8, 7, 1, 1, 3, 6⟩, ⟨9, 0, 0, 1, 4, 6⟩, ⟨10, 9, 1, 1, 4, 6⟩, ⟨11, 0, 0, 1, 5, 6⟩, ⟨12, 11, 1, 1, 5, 6⟩, ⟨13, 0, 0, 1, 6, 6⟩, ⟨14, 13, 1, 1, 6, 6⟩, ⟨15, 0, 0, 1, 7, 6⟩, ⟨16, 15, 1, 1, 7, 6⟩, ⟨17, 0, 0, 1, 8, 6⟩, ⟨18, 17, 1, 1, 8, 6⟩, ⟨19, 0, 0, 1, 9, 6⟩, ⟨20, 19, 1, 1, 9, 6⟩, ⟨21, 0, 0, 1, 10, 6⟩, ⟨22, 21, 1, 1, 10, 6⟩, ⟨23, 0, 0, 1, 1, 7⟩, ⟨24, 23, 2, 1, 1, 7⟩, ⟨25, 23, 3, 1, 1, 7⟩, ⟨26, 23, 4, 1, 1, 7⟩, ⟨27, 23, 5, 1, 1, 7⟩, ⟨28, 23, 6, 1, 1, 7⟩, ⟨29, 23, 7, 1, 1, 7⟩, ⟨30, 23, 8, 1, 1, 7⟩, ⟨31, 23, 9, 1, 1, 7⟩, ⟨32, 23, 10, 1, 1, 7⟩, ⟨33, 0, 0, 1, 4, 8⟩, ⟨34, 33, 3, 1, 4, 8⟩, ⟨35, 0, 0, 1, 4, 9⟩, ⟨36, 35, 3, 1, 4, 9⟩, ⟨37, 0, 0, 1, 4, 10⟩, ⟨38, 37, 3, 1, 4, 10⟩, ⟨39, 0, 0, 1, 3, 11⟩, ⟨40, 39, 4, 1, 3, 11⟩, ⟨41, 0, 0, 1, 5, 12⟩, ⟨42, 41, 3, 1, 5, 12⟩, ⟨43, 0, 0, 1, 5, 13⟩, ⟨44, 43, 3, 1, 5, 13⟩, ⟨45, 0, 0, 1, 5, 14⟩, ⟨46, 45, 3, 1, 5, 14⟩, ⟨47, 0, 0, 1, 3, 15⟩, ⟨48, 47, 5, 1, 3, 15⟩, ⟨49, 0, 0, 1, 10, 16⟩, ⟨50, 49, 3, 1, 10, 16⟩, ⟨51, 0, 0, 1, 3, 17⟩, ⟨52, 51, 10, 1, 3, 17⟩, ⟨53, 0, 0, 1, 6, 18⟩, ⟨54, 53, 5, 1, 6, 18⟩, ⟨55, 0, 0, 1, 5, 19⟩, ⟨56, 55, 6, 1, 5, 19⟩, ⟨57, 0, 0, 1, 7, 20⟩, ⟨58, 57, 4, 1, 7, 20⟩, ⟨59, 57, 6, 1, 7, 20⟩, ⟨60, 0, 0, 1, 4, 21⟩, ⟨61, 60, 7, 1, 4, 21⟩, ⟨62, 0, 0, 1, 6, 21⟩, ⟨63, 62, 7, 1, 6, 21⟩, ⟨64, 0, 0, 1, 9, 22⟩, ⟨65, 64, 5, 1, 9, 22⟩, ⟨66, 0, 0, 1, 5, 23⟩, ⟨67, 66, 9, 1, 5, 23⟩, ⟨68, 0, 0, 1, 8, 24⟩, ⟨69, 68, 5, 1, 8, 24⟩, ⟨70, 0, 0, 1, 5, 25⟩, ⟨71, 70, 8, 1, 5, 25⟩, ⟨72, 0, 0, 1, 2, 26⟩, ⟨73, 72, 1, 1, 2, 26⟩, ⟨74, 72, 2, 1, 2, 26⟩, ⟨75, 72, 3, 1, 2, 26⟩, ⟨76, 72, 4, 1, 2, 26⟩, ⟨77, 72, 5, 1, 2, 26⟩, ⟨78, 72, 6, 1, 2, 26⟩, ⟨79, 72, 7, 1, 2, 26⟩, ⟨80, 72, 8, 1, 2, 26⟩, ⟨81, 72, 9, 1, 2, 26⟩, ⟨82, 72, 10, 1, 2, 26⟩, ⟨83, 0, 0, 1, 1, 27⟩, ⟨84, 83, 2, 1, 1, 27⟩, ⟨85, 0, 0, 1, 2, 27⟩, ⟨86, 85, 2, 1, 2, 27⟩, ⟨87, 0, 0, 1, 3, 27⟩, ⟨88, 87, 2, 1, 3, 27⟩, ⟨89, 0, 0, 1, 4, 27⟩, ⟨90, 89, 2, 1, 4, 27⟩, ⟨91, 0, 0, 1, 5, 27⟩, ⟨92, 91, 2, 1, 5, 27⟩, ⟨93, 0, 0, 1, 6, 27⟩, ⟨94, 93, 2, 1, 6, 27⟩, ⟨95, 0, 0, 1, 7, 27⟩, ⟨96, 95, 2, 1, 7, 27⟩, ⟨97, 0, 0, 1, 8, 27⟩, ⟨98, 97, 2, 1, 8, 27⟩, ⟨99, 0, 0, 1, 9, 27⟩, ⟨100, 99, 2, 1, 9, 27⟩, ⟨101, 0, 0, 1, 10, 27⟩, ⟨102, 101, 2, 1, 10, 27⟩, ⟨103, 0, 0, 2, 0, 1⟩, ⟨104, 103, 1, 2, 0, 1⟩, ⟨105, 103, 2, 2, 0, 1⟩, ⟨106, 103, 3, 2, 0, 1⟩, ⟨107, 103, 4, 2, 0, 1⟩, ⟨108, 103, 5, 2, 0, 1⟩, ⟨109, 103, 6, 2, 0, 1⟩, ⟨110, 103, 7, 2, 0, 1⟩, ⟨111, 103, 8, 2, 0, 1⟩, ⟨112, 103, 9, 2, 0, 1⟩, ⟨113, 103, 10, 2, 0, 1⟩, ⟨114, 0, 0, 2, 0, 2⟩, ⟨115, 114, 3, 2, 0, 2⟩, ⟨116, 114, 4, 2, 0, 2⟩, ⟨117, 114, 5, 2, 0, 2⟩, ⟨118, 114, 10, 2, 0, 2⟩, ⟨119, 0, 0, 2, 0, 3⟩, ⟨120, 119, 7, 2, 0, 3⟩, ⟨121, 119, 8, 2, 0, 3⟩, ⟨122, 119, 9, 2, 0, 3⟩, ⟨123, 0, 0, 2, 0, 4⟩, ⟨124, 123, 1, 2, 0, 4⟩, ⟨125, 123, 2, 2, 0, 4⟩, ⟨126, 123, 3, 2, 0, 4⟩, ⟨127, 123, 4, 2, 0, 4⟩, ⟨128, 123, 5, 2, 0, 4⟩, ⟨129, 123, 6, 2, 0, 4⟩, ⟨130, 123, 7, 2, 0, 4⟩, ⟨131, 123, 8, 2, 0, 4⟩, ⟨132, 123, 9, 2, 0, 4⟩, ⟨133, 123, 10, 2, 0, 4⟩, ⟨134, 0, 0, 2, 0, 5⟩, ⟨135, 134, 4, 2, 0, 5⟩, ⟨136, 0, 0, 2, 0, 6⟩, ⟨137, 136, 4, 2, 0, 6⟩, ⟨138, 0, 0, 2, 0, 7⟩, ⟨139, 138, 4, 2, 0, 7⟩, ⟨140, 0, 0, 2, 0, 8⟩, ⟨141, 140, 4, 2, 0, 8⟩, ⟨142, 0, 0, 2, 0, 9⟩, ⟨143, 142, 4, 2, 0, 9⟩, ⟨144, 0, 0, 2, 0, 10⟩, ⟨145, 144, 4, 2, 0, 10⟩, ⟨146, 0, 0, 2, 0, 11⟩, ⟨147, 146, 3, 2, 0, 11⟩, ⟨148, 0, 0, 2, 0, 12⟩, ⟨149, 148, 3, 2, 0, 12⟩, ⟨150, 0, 0, 2, 0, 13⟩, ⟨151, 150, 3, 2, 0, 13⟩, ⟨152, 0, 0, 2, 0, 14⟩, ⟨153, 152, 3, 2, 0, 14⟩, ⟨154, 0, 0, 2, 0, 15⟩, ⟨155, 154, 5, 2, 0, 15⟩, ⟨156, 0, 0, 2, 0, 16⟩, ⟨157, 156, 1, 2, 0, 16⟩, ⟨158, 0, 0, 3, 0, 1⟩, ⟨159, 158, 7, 3, 0, 1⟩, ⟨160, 0, 0, 3, 0, 2⟩, ⟨161, 160, 8, 3, 0, 2⟩, ⟨162, 0, 0, 3, 0, 3⟩, ⟨163, 162, 9, 3, 0, 3⟩, ⟨164, 1, 16, 1, 3, 1⟩, ⟨165, 2, 16, 1, 4, 1⟩, ⟨166, 3, 16, 1, 5, 1⟩, ⟨167, 4, 16, 1, 10, 1⟩]
def lineL : List Line18 := [⟨1, 3, 1, []⟩, ⟨1, 4, 1, []⟩, ⟨1, 5, 1, []⟩, ⟨1, 10, 1, []⟩, ⟨1, 2, 6, [1]⟩, ⟨1, 3, 6, [1]⟩, ⟨1, 4, 6, [1]⟩, ⟨1, 5, 6, [1]⟩, ⟨1, 6, 6, [1]⟩, ⟨1, 7, 6, [1]⟩, ⟨1, 8, 6, [1]⟩, ⟨1, 9, 6, [1]⟩, ⟨1, 10, 6, [1]⟩, ⟨1, 1, 7, [2, 3, 4, 5, 6, 7, 8, 9, 10]⟩, ⟨1, 4, 8, [3]⟩, ⟨1, 4, 9, [3]⟩, ⟨1, 4, 10, [3]⟩, ⟨1, 3, 11, [4]⟩, ⟨1, 5, 12, [3]⟩, ⟨1, 5, 13, [3]⟩, ⟨1, 5, 14, [3]⟩, ⟨1, 3, 15, [5]⟩, ⟨1, 10, 16, [3]⟩, ⟨1, 3, 17, [10]⟩, ⟨1, 6, 18, [5]⟩, ⟨1, 5, 19, [6]⟩, ⟨1, 7, 20, [4, 6]⟩, ⟨1, 4, 21, [7]⟩, ⟨1, 6, 21, [7]⟩, ⟨1, 9, 22, [5]⟩, ⟨1, 5, 23, [9]⟩, ⟨1, 8, 24, [5]⟩, ⟨1, 5, 25, [8]⟩, ⟨1, 2, 26, [1, 2, 3, 4, 5, 6, 7, 8, 9, 10]⟩, ⟨1, 1, 27, [2]⟩, ⟨1, 2, 27, [2]⟩, ⟨1, 3, 27, [2]⟩, ⟨1, 4, 27, [2]⟩, ⟨1, 5, 27, [2]⟩, ⟨1, 6, 27, [2]⟩, ⟨1, 7, 27, [2]⟩, ⟨1, 8, 27, [2]⟩, ⟨1, 9, 27, [2]⟩, ⟨1, 10, 27, [2]⟩, ⟨2, 0, 1, [1, 2, 3, 4, 5, 6, 7, 8, 9, 10]⟩, ⟨2, 0, 2, [3, 4, 5, 10]⟩, ⟨2, 0, 3, [7, 8, 9]⟩, ⟨2, 0, 4, [1, 2, 3, 4, 5, 6, 7, 8, 9, 10]⟩, ⟨2, 0, 5, [4]⟩, ⟨2, 0, 6, [4]⟩, ⟨2, 0, 7, [4]⟩, ⟨2, 0, 8, [4]⟩, ⟨2, 0, 9, [4]⟩, ⟨2, 0, 10, [4]⟩, ⟨2, 0, 11, [3]⟩, ⟨2, 0, 12, [3]⟩, ⟨2, 0, 13, [3]⟩, ⟨2, 0, 14, [3]⟩, ⟨2, 0, 15, [5]⟩, ⟨2, 0, 16, [1]⟩, ⟨3, 0, 1, [7]⟩, ⟨3, 0, 2, [8]⟩, ⟨3, 0, 3, [9]⟩]
theorem boot_caps : s11 FU = some ((168, (bootL, ())), ()) := by kernel_rfl
theorem line_ref : s34 FU = some (lineL, ()) := by kernel_rfl
theorem boot_validB : validB 168 bootL = true := by kernel_rfl
theorem boot_len : bootL.length < 300 := by decide +kernel
def holdStep (p : Int) (x : Line18) (h : Int) (s : Int × List Cap18) : Int × List Cap18 := (s.1 + 1, s.2 ++ [⟨s.1, p, h, x.right_Type, x.right_Peer, x.right_Code⟩])
def lineStep (x : Line18) (s : Int × List Cap18) : Int × List Cap18 := x.holders.foldl (fun t h => holdStep s.1 x h t) (holdStep 0 x 0 s)
theorem hold_len (p : Int) (x : Line18) : ∀ (hs : List Int) (s : Int × List Cap18), (hs.foldl (fun t h => holdStep p x h t) s).2.length = s.2.length + hs.length ∧ (hs.foldl (fun t h => holdStep p x h t) s).1 = s.1 + hs.length
  | [], s => by simp
  | h :: hs, s => by
    rw [List.foldl_cons]
    have := hold_len p x hs (holdStep p x h s)
    simp only [holdStep, List.length_append, List.length_cons, List.length_nil] at this ⊢
    omega
theorem line_few : ∀ x ∈ lineL, x.holders.length ≤ 100 := by decide +kernel
theorem line_len : lineL.length ≤ 100 := by decide +kernel
theorem boot_fold : lineL.foldl (fun s x => lineStep x s) (1, []) = (164, bootL.take 163) := by kernel_rfl
theorem boot_enter : enterS 164 (bootL.take 163) 16 = ((168, (bootL, ())), (0, ())) := by kernel_rfl
theorem boot_lines (fu : Nat) (hf : 1000 < fu) : iter (t15_1 fu) fu ((), ((), (lineL, (0, ((1, ([], ())), ((0, ((), ())), ())))))) = some (.inl ((), ((), ((164, (bootL.take 163, ())), ((0, ((), ())), ()))))) := by
  have hln := line_len
  have := iter_fold (step := t15_1 fu) (fu := fu) lineL (fun j (s : Int × List Cap18) => ((), ((), (lineL, ((j : Int), ((s.1, (s.2, ())), ((0, ((), ())), ())))))))
    lineStep (fun i s => s.2.length ≤ 101 * i ∧ s.1 = 1 + s.2.length) (fun s => .inl ((), ((), ((s.1, (s.2, ())), ((0, ((), ())), ()))))) (1, []) (by omega) (by simp)
    (fun i x s hi hI => by
      have h1 := getElem?_lt hi
      have hx := line_few x (List.mem_of_getElem? hi)
      have hls := hold_len s.1 x x.holders (holdStep 0 x 0 s)
      refine ⟨?_, ?_⟩
      · simp only [t15_1, dlen_def, dat_nat, hi, ilt_len h1, add_ref fu s.1 s.2 _ _ _ _ _ (show s.2.length < 1000000000000 by omega) (by omega)]
        have inner := iter_fold (step := t15_4 fu) (fu := fu) x.holders (fun j (t : Int × List Cap18) => ((), ((), (lineL, ((i : Int), (s.1, ((j : Int), ((t.1, (t.2, ())), ((0, ((), ())), ())))))))))
          (fun h t => holdStep s.1 x h t) (fun j t => t.2.length = s.2.length + 1 + j ∧ t.1 = 1 + t.2.length) (fun t => .inl ((), ((), (lineL, ((i : Int), ((t.1, (t.2, ())), ((0, ((), ())), ()))))))) (s.1 + 1, s.2 ++ [⟨s.1, 0, 0, x.right_Type, x.right_Peer, x.right_Code⟩]) (by omega) (by simp; omega)
          (fun j h t hj hJ => by
            have h2 := getElem?_lt hj
            refine ⟨?_, by simp only [holdStep, List.length_append, List.length_cons, List.length_nil]; omega⟩
            simp only [t15_4, dlen_def, dat_nat, hi, hj, ilt_len h2, iadd1 (show j < 9223372036854775807 by omega), add_ref fu t.1 t.2 _ _ _ _ _ (show t.2.length < 1000000000000 by omega) (by omega)]
            rfl)
          (fun t hJ => by simp only [t15_4, dlen_def, dat_nat, hi, ilt_end])
        simp only [Int.natCast_zero] at inner
        rw [inner]
        simp only [iadd1 (show i < 9223372036854775807 by omega)]
        rfl
      · simp only [holdStep, List.length_append, List.length_cons, List.length_nil] at hls
        show (lineStep x s).2.length ≤ _ ∧ (lineStep x s).1 = _
        unfold lineStep
        simp only [holdStep] at hls ⊢
        omega)
    (fun s hI => by simp only [t15_1, dlen_def, ilt_end])
  simp only [Int.natCast_zero] at this
  rw [this, boot_fold]
theorem boot_ref0 (fu : Nat) (hf : 1000 < fu) (h : s34 fu = some (lineL, ())) : s15 fu = some ((168, (bootL, ())), ()) := by
  unfold s15
  rw [h]
  simp only
  rw [boot_lines fu hf]
  simp only
  rw [enter_ref fu _ (bootL.take 163) 16 (by rw [List.length_take]; have := boot_len; omega) (by rw [List.length_take]; have := boot_len; omega), boot_enter]
theorem boot_ref : s15 FU = some ((168, (bootL, ())), ()) := boot_ref0 FU (by decide) line_ref
theorem aw0 (fu : Nat) (hf : 1000 < fu) (n : Int) (hn : ilt 1 n = true) (h : s11 fu = some ((n, (bootL, ())), ())) : s12 fu = some (true, ()) := by
  unfold s12
  have := boot_len
  rw [h]
  simp only
  rw [has_caps fu _ bootL _ _ _ _ (by omega) (by omega), has_caps fu _ bootL _ _ _ _ (by omega) (by omega), show bootL.any (isHas 3 1 4 10) = true from by decide +kernel, show bootL.any (isHas 4 1 3 10) = false from by decide +kernel]
  simp only [hn]
theorem aw18 : s12 FU = some (true, ()) := aw0 FU (by decide) _ rfl boot_caps
end Go.G
