/-
  Names of narrations: the program's text.
-/
import Derived.Test.YtgnklbkmfeafaaaGreatDoorTv3
import Derived.Test.YtgnklbkmfeafaaaGreatDoorFh
set_option maxHeartbeats 0
set_option maxRecDepth 100000
namespace Go.Vm.Seat
variable {a b:Int} {s:Zg} {k:Nat}
open Go.Proofs
theorem Zn (a b:Int):WL E0 .lss 3 (.int .i64 a) (.int .i64 b)=some (.bool (decide (a<b))):=rfl
theorem Yv (a b:Int):WL E0 .gtr 3 (.int .i64 a) (.int .i64 b)=some (.bool (decide (b<a))):=rfl
theorem Us (a b:Int):WL E0 .geq 3 (.int .i64 a) (.int .i64 b)=some (.bool (decide (b≤a))):=rfl
theorem ZgQ (a b:Int):WL E0 .leq 3 (.int .i64 a) (.int .i64 b)=some (.bool (decide (a≤b))):=rfl
theorem Z6 (a b:Int):WL E0 .eql 3 (.int .i64 a) (.int .i64 b)=some (.bool (decide (a=b))):=by
 show some (PV.bool (a==b))=_
 by_cases h:a=b<;>simp [h]
theorem Ue (a b:Int):WL E0 .neq 3 (.int .i64 a) (.int .i64 b)=some (.bool (!decide (a=b))):=by
 show some (PV.bool (a != b))=_
 by_cases h:a=b<;>simp [h,bne]
theorem ZbB (a b:Int):WL E0 .eql 30 (.int .i64 a) (.int .i64 b)=some (.bool (decide (a=b))):=Z6 a b
theorem ZK (a b:Int):WL E0 .neq 30 (.int .i64 a) (.int .i64 b)=some (.bool (!decide (a=b))):=Ue a b
theorem X6 (a b:Int):WL E0 .eql 5 (.int .u8 a) (.int .u8 b)=some (.bool (decide (a=b))):=by
 show some (PV.bool (a==b))=_
 by_cases h:a=b<;>simp [h]
theorem Zy (h: -9223372036854775808≤a+b) (h':a+b≤9223372036854775807):WL E0 .add 3 (.int .i64 a) (.int .i64 b)=some (.int .i64 (a+b)):=by
 show some (PV.int .i64 (IntKind.i64.wrap (a+b)))=_
 rw [IntWalk.i64_in _ (by omega)]
theorem ZgD (h: -9223372036854775808≤a-b) (h':a-b≤9223372036854775807):WL E0 .sub 3 (.int .i64 a) (.int .i64 b)=some (.int .i64 (a-b)):=by
 show some (PV.int .i64 (IntKind.i64.wrap (a-b)))=_
 rw [IntWalk.i64_in _ (by omega)]
theorem Y1 (a b:Zg):WL E0 .eql 9 (.str a) (.str b)=some (.bool (decide (a=b))):=by
 show some (PV.bool (a==b))=_
 by_cases h:a=b<;>simp [h]
theorem ZaT (a b:Zg):WL E0 .neq 9 (.str a) (.str b)=some (.bool (!decide (a=b))):=by
 show some (PV.bool (a != b))=_
 by_cases h:a=b<;>simp [h,bne]
theorem VE (h:k≤s.length):YY E0 9 (.str s) none (some (.int .i64 (k:Int))) none=some (.str (s.take k)):=by
 have en:nat? (.int .i64 (k:Int))=some k:=by simp [nat?]
 simp only [YY,eTs,XL,en]
 rw [if_pos h]
 rfl
theorem Zaf (h:k≤s.length):YY E0 9 (.str s) (some (.int .i64 (k:Int))) none none=some (.str (s.drop k)):=by
 have en:nat? (.int .i64 (k:Int))=some k:=by simp [nat?]
 simp only [YY,eTs,XL,en]
 rw [if_pos h,List.take_length]
theorem Qw {m:Nat} (h:k≤m) (h2:m≤s.length):YY E0 9 (.str s) (some (.int .i64 (k:Int))) (some (.int .i64 (m:Int))) none=some (.str ((s.take m).drop k)):=by
 have en:nat? (.int .i64 (k:Int))=some k:=by simp [nat?]
 have em:nat? (.int .i64 (m:Int))=some m:=by simp [nat?]
 simp only [YY,eTs,XL,en,em,if_pos h2,if_pos h]
theorem Zjb (c:Int):∀ H,CallOk E0 Tryz.prog 150 [.int .u8 c] H (.bool (XX c)) H:=by
 refine Jw tOk fe150.ok rfl ?_
 repeat' first|refine Jk ?_|refine Jt ?_|refine Jb ?_ ?_|refine Jo ?_|intro hb
 all_goals
  refine Uq ?_
  simp [XX] at *
  try omega
theorem Zky (c:Int):∀ H,CallOk E0 Tryz.prog 161 [.int .u8 c] H (.bool (Uz c)) H:=by
 refine Jw tOk fe161.ok rfl ?_
 repeat' first|refine Jk ?_|refine Jt ?_|refine Jb ?_ ?_|refine Jo ?_|intro hb
 all_goals
  refine Uq ?_
  simp [Uz] at *
  try omega
def QP (s:Zg):Bool:=decide (s.take 2= [35,35])
theorem Zkn (s:Zg):∀ H,CallOk E0 Tryz.prog 173 [.str s,.str [35,35]] H (.bool (QP s)) H:=by
 by_cases h:2≤s.length
 · have hg := Us ((s.length : Nat) : Int) 2
   rw [decide_eq_true (by omega)] at hg
   have hs:=VE (k:=2) h
   have he:=Y1 (s.take 2) [35,35]
   unfold QP
   generalize decide (s.take 2= [35,35])=B at he ⊢
   refine Jw tOk fe173.ok rfl ?_
   cases B
   all_goals
    repeat' first|refine Jk ?_|refine JS ?_|refine Ji ?_|refine Jl ?_|refine Jt ?_|refine Jb ?_ ?_|refine Jo ?_|intro hb
    all_goals rfl
 · have hg := Us ((s.length : Nat) : Int) 2
   rw [decide_eq_false (by omega)] at hg
   have e:QP s=false:=by
    have:(s.take 2).length≠2:=by simp;omega
    unfold QP
    rw [decide_eq_false]
    intro h
    rw [h] at this
    exact this rfl
   rw [e]
   refine Jw tOk fe173.ok rfl ?_
   repeat' first|refine Jk ?_|refine JS ?_|refine Ji ?_|refine Jl ?_|refine Jt ?_|refine Jb ?_ ?_|refine Jo ?_|intro hb
   all_goals rfl
theorem Zh3 (s:Zg):∀ H,CallOk E0 Tryz.prog 162 [.str s,.str [35,35]] H (.bool (QP s)) H:=by
 have hc:=Zkn s
 refine Jw tOk fe162.ok rfl ?_
 repeat' first|refine Jc (hc _) ?_|refine Jt ?_|refine Jb ?_ ?_|refine Jo ?_|intro hb
 all_goals rw [hb]
theorem ZcF (c:UInt8) (r:Zg):QP (c::r)=(decide (c=35)&&decide (r.head? = some 35)):=by
 cases r with
 |nil=>simp [QP]
 |cons d r=>simp [QP]
theorem VO (d:UInt8):Yr d=(XX (d.toNat:Int)||(Uz (d.toNat:Int)||(decide ((d.toNat:Int)=95)||decide ((d.toNat:Int)=35)))):=rfl
theorem or4 (a b c d:Bool):a=true∨(a=false∧b=true)∨(a=false∧b=false∧c=true)∨(a=false∧b=false∧c=false∧d=true)∨(a=false∧b=false∧c=false∧d=false):=by
 cases a<;>cases b<;>cases c<;>cases d<;>simp
theorem Zbt (d:UInt8):((d.toNat:Int)=35)↔d=35:=by
 constructor
 · intro h
   have:d.toNat=35:=by omega
   exact UInt8.toNat_inj.1 this
 · rintro rfl;rfl
theorem Zkl (c:UInt8) (r:Zg) (hs:r.length+1≤9223372036854775807):∀ H,CallOk E0 Tryz.prog 151 [.str (c::r)] H (.int .i64 ((ZaQ r+1:Nat):Int)) H:=by
 obtain ⟨s,hss⟩:∃ s,s=c::r:=⟨_,rfl⟩
 have hsl:s.length=r.length+1:=by rw [hss];rfl
 have hsd:∀ i,s.drop (i+1)=r.drop i:=fun i=>by rw [hss];rfl
 have hsg:∀ i,s[i+1]? = r[i]? :=fun i=>by rw [hss];rfl
 rw [← hss]
 clear hss
 refine Jw tOk fe151.ok rfl ?_
 repeat' first|refine Jk ?_|refine JS ?_|refine JX ?_|refine Ji ?_|refine Jl ?_|refine Jt ?_|refine Jb ?_ ?_|refine Jo ?_|intro hb
 refine Wp.while (fun m tm H=>∃ (i:Nat) (base:TM),i+m=r.length∧ZaQ r=i+ZaQ (r.drop i)∧tm=ovr base [(0,.str s),(3,.int .i64 ((i+1:Nat):Int))]∧H=⟨[],0,[],0⟩)
  (fun m tm H hI=>Wp.drop ?_) r.length _ _ ⟨0,_,by omega,by simp,Zf ⟨rfl,rfl,trivial⟩,rfl⟩
 obtain ⟨i,base,hi,hrun,rfl,rfl⟩:=hI
 have hlx:=Zn ((i+1:Nat):Int) (s.length:Int)
 by_cases hlt:i<r.length
 · rw [decide_eq_true (by omega)] at hlx
   obtain ⟨d,hd⟩:∃ d,r[i]? = some d:=⟨r[i],by simp⟩
   have hj:=Vi ((hsg i).trans hd)
   have hdr:=ZA hd
   have hL:=Zjb (d.toNat:Int)
   have hD:=Zky (d.toNat:Int)
   have h95:=X6 (d.toNat:Int) 95
   have h35:=X6 (d.toNat:Int) 35
   have hsl:=Zaf (s:=s) (k:=i+1) (by omega)
   rw [hsd i] at hsl
   have hP:=Zh3 (r.drop i)
   have hrd:ZaQ (r.drop i)=if (Yr d&& !(decide (d=35)&&decide ((r.drop (i+1)).head? = some 35)))=true then ZaQ (r.drop (i+1))+1 else 0:=by
    rw [hdr]
    show (if _ then _ else _)=_
    refine ite_congr (propext ?_) (fun _=>rfl) (fun _=>rfl)
    simp only [Bool.and_eq_true,Bool.not_eq_true',Bool.and_eq_false_iff,decide_eq_false_iff_not]
    refine and_congr Iff.rfl ?_
    exact Decidable.not_and_iff_or_not
   rw [show QP (r.drop i)=(decide (d=35)&&decide ((r.drop (i+1)).head? = some 35)) by rw [hdr,ZcF]] at hP
   rw [VO] at hrd
   have hii:=Zy (a:=((i+1:Nat):Int)) (b:=1) (by omega) (by omega)
   rw [show ((i+1:Nat):Int)+1=((i+1+1:Nat):Int) by omega] at hii
   have e35:=Zbt d
   generalize XX (d.toNat:Int)=A at hL hrd
   generalize Uz (d.toNat:Int)=B at hD hrd
   generalize decide ((d.toNat:Int)=95)=C at h95 hrd
   generalize (decide (d=35)&&decide ((r.drop (i+1)).head? = some 35))=F at hP hrd
   clear hdr hd
   rcases or4 A B C (decide ((d.toNat:Int)=35)) with rfl|⟨rfl,rfl⟩|⟨rfl,rfl,rfl⟩|⟨rfl,rfl,rfl,h4⟩|⟨rfl,rfl,rfl,h4⟩
   iterate 3
    cases F with
    | true =>
      repeat' first|refine Jk ?_|(apply qCl;rfl;rfl;rfl;rfl;first|exact hL _|exact hD _|exact hP _)|refine JS ?_|refine JX ?_|refine Ji ?_|refine Jl ?_|refine Jt ?_|refine Jb ?_ ?_|refine Jo ?_|intro hb
      refine Zz ?_
      simp at hrd
      omega
    | false =>
      repeat' first|refine Jk ?_|(apply qCl;rfl;rfl;rfl;rfl;first|exact hL _|exact hD _|exact hP _)|refine JS ?_|refine JX ?_|refine Ji ?_|refine Jl ?_|refine Jt ?_|refine Jb ?_ ?_|refine Jo ?_|intro hb
      simp at hrd
      refine DropQ.go [(0,.str s),(3,.int .i64 ((i+1+1:Nat):Int))] ⟨rfl,rfl,trivial⟩ rfl rfl rfl ?_
      exact LoopI.go (m-1) (by omega) ⟨i+1,_,by omega,by omega,rfl,rfl⟩
   · rw [h4] at h35 hrd
     cases F with
     | true =>
       repeat' first|refine Jk ?_|(apply qCl;rfl;rfl;rfl;rfl;first|exact hL _|exact hD _|exact hP _)|refine JS ?_|refine JX ?_|refine Ji ?_|refine Jl ?_|refine Jt ?_|refine Jb ?_ ?_|refine Jo ?_|intro hb
       refine Zz ?_
       simp at hrd
       omega
     | false =>
       repeat' first|refine Jk ?_|(apply qCl;rfl;rfl;rfl;rfl;first|exact hL _|exact hD _|exact hP _)|refine JS ?_|refine JX ?_|refine Ji ?_|refine Jl ?_|refine Jt ?_|refine Jb ?_ ?_|refine Jo ?_|intro hb
       simp at hrd
       refine DropQ.go [(0,.str s),(3,.int .i64 ((i+1+1:Nat):Int))] ⟨rfl,rfl,trivial⟩ rfl rfl rfl ?_
       exact LoopI.go (m-1) (by omega) ⟨i+1,_,by omega,by omega,rfl,rfl⟩
   · rw [h4] at h35 hrd
     repeat' first|refine Jk ?_|(apply qCl;rfl;rfl;rfl;rfl;first|exact hL _|exact hD _|exact hP _)|refine JS ?_|refine JX ?_|refine Ji ?_|refine Jl ?_|refine Jt ?_|refine Jb ?_ ?_|refine Jo ?_|intro hb
     refine Zz ?_
     simp at hrd
     omega
 · have e : i = r.length := by omega
   subst e
   rw [decide_eq_false (by omega)] at hlx
   rw [List.drop_length] at hrun
   repeat' first|refine Jk ?_|refine JS ?_|refine JX ?_|refine Ji ?_|refine Jl ?_|refine Jt ?_|refine Jb ?_ ?_|refine Jo ?_|intro hb
   refine Zz ?_
   simp [ZaQ] at hrun
   omega
theorem ZdL (c:UInt8) (r:Zg) (h:XX (c.toNat:Int)=true):YG (c::r)=(decide (((ZaQ r+1:Nat):Int)=((r.length+1:Nat):Int))&&decide (((r.length+1:Nat):Int)≤24)):=by
 have hc35:c≠35:=by rintro rfl;revert h;decide
 have hp:Yr c=true:=by rw [VO,show XX (c.toNat:Int)=true from h];rfl
 have hr:=Zcr r
 unfold YG
 rw [XE]
 simp only [List.all_cons,Zb5,hp]
 rw [show XX (Int.ofNat c.toNat)=true from h,decide_eq_false hc35]
 simp only [Bool.true_and,Bool.false_and,Bool.not_false,List.length_cons]
 by_cases h1:ZaQ r=r.length
 · obtain ⟨h2, h3⟩ := hr.1 h1
   rw [h2,h3,h1]
   simp
   omega
 · rw [decide_eq_false (show ¬ (((ZaQ r + 1 : Nat) : Int) = ((r.length + 1 : Nat) : Int)) by omega)]
   by_cases h2:r.all Yr=true
   · by_cases h3 : Zb5 r = true
     · exact absurd (hr.2 ⟨h2,h3⟩) h1
     · simp at h3;simp [h3]
   · simp only [Bool.not_eq_true] at h2;rw [h2];simp
theorem ZhU (s:Zg) (hs:s.length≤9223372036854775807):∀ H,CallOk E0 Tryz.prog 131 [.str s] H (.bool (YG s)) H:=by
 have hne:=ZaT s []
 refine Jw tOk fe131.ok rfl ?_
 cases s with
 | nil =>
   repeat' first|refine Jk ?_|refine JX ?_|refine Ji ?_|refine Jl ?_|refine Jt ?_|refine Jb ?_ ?_|refine Jo ?_|intro hb
   all_goals rfl
 | cons c r =>
   rw [decide_eq_false (by simp)] at hne
   have hL:=Zjb (c.toNat:Int)
   have hj:=Vi (i:=0) (show (c::r)[0]? = some c from rfl)
   cases hA:XX (c.toNat:Int) with
   | false =>
     rw [hA] at hL
     rw [show YG (c::r)=false by unfold YG;rw [XE,show XX (Int.ofNat c.toNat)=false from hA];simp]
     repeat' first|refine Jk ?_|refine Jc (hL _) ?_|refine JX ?_|refine Ji ?_|refine Jl ?_|refine Jt ?_|refine Jb ?_ ?_|refine Jo ?_|intro hb
     all_goals rfl
   | true =>
     rw [hA] at hL
     have hN:=Zkl c r (by simp at hs;omega)
     have h1:=Z6 ((ZaQ r+1:Nat):Int) ((r.length+1:Nat):Int)
     have h2:=ZgQ ((r.length+1:Nat):Int) 24
     rw [ZdL c r hA]
     generalize decide (((ZaQ r+1:Nat):Int)=((r.length+1:Nat):Int))=A at h1 ⊢
     generalize decide (((r.length+1:Nat):Int)≤24)=B at h2 ⊢
     generalize ((ZaQ r+1:Nat):Int)=x at *
     cases A<;>cases B
     all_goals
      repeat' first|refine Jk ?_|refine Jc (hL _) ?_|refine Jc (hN _) ?_|refine JX ?_|refine Ji ?_|refine Jl ?_|refine Jt ?_|refine Jb ?_ ?_|refine Jo ?_|intro hb
      all_goals rfl
