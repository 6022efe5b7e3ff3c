/-
  What the shelf knows of some of the library's functions, at this program.
-/
import Derived.Test.YtnghnjdabbjcnaaGreatDoorVAwEnv
import Derived.Shelf.Strings.OnBuilder
import Derived.Shelf.Strconv.Itoa0
import Derived.Shelf.Strconv.Itoa1
import Derived.Shelf.LaysM
import Derived.Shelf.Strconv.Itoa2
import Derived.Shelf.LaysC
import Derived.Shelf.Strconv.AtoiAll
import Derived.Shelf.Strings.Cut
import Derived.Shelf.Strings.Split
import Derived.Test.YtnghnjdabbjcnaaGreatDoorProg
set_option maxHeartbeats 0
set_option maxRecDepth 100000
namespace Go.Vm.Seat
variable {t:Tm}
open Go.Proofs
theorem XA (k:Int) (nm:List UInt8) (s:Int) (b:Bool) (kz:List Tm):Vn [.int .i64 k,.str nm,.int .i64 s,slV b 4 (Za kz)]=some [.int .i64 k,.str nm,.int .i64 s,slV b 4 (Za kz)]:=by simp only[Vn,ZX];rfl
theorem Zua (ht:t.Ok):t.size<4611686018427387904→∀H,CO 140 [.agg t.cells] H (.int .i64 (t.size:Int)) H:=by
 induction ht with
 | @mk k nm s b kz hk hs hn hl hok ih=>
 intro hsz;refine Jw tOk fe140.ok rfl ?_;repeat' first|refine Jo ?_|fail
 refine Wp.while (fun m tm H=>∃i base,i+m=kz.length∧tm=ovr base [(1,.ptr 0 4 0 0),(3,.int .i64 ((1+Zk (kz.take i):Nat):Int)),(4,.int .i64 (i:Int))]∧H=⟨[.cells 4 [[.int .i64 k,.str nm,.int .i64 s,slV b 4 (Za kz)]]],0,[],0⟩)
  (fun m tm H hI=>?_) kz.length _ _ ⟨0,_,by omega,Ze ⟨rfl,rfl,rfl,trivial⟩,rfl⟩
 obtain⟨i,base,hi,rfl,rfl⟩:=hI;simp only[Tm.size]at hsz;unfold maxLen at hl;by_cases hlt:i<kz.length
 ·obtain⟨t',ht'⟩:∃t',kz[i]? = some t':=⟨kz[i],by simp⟩;have hm:t'∈kz:=List.mem_of_getElem? ht';have hle:=XH hm;have hst:=Wo ht';have hsl:=ZA kz (i+1);have hc:=ih t' hm (by omega);obtain⟨k',nm',s',b',kz'⟩:=t';have hj:=Zj ht';repeat' first|refine Jc (hc _) ?_|refine Kx ?_|refine Jb ?_ ?_|refine Jo ?_|intro hb
  {refine LoopI.go (m-1) (by omega) ⟨i+1,_,by omega,Ze ⟨rfl,?_,?_,trivial⟩,rfl⟩;{refine Zg ?_;rw[hst, ← Nat.add_assoc,Int.natCast_add (1+Zk (kz.take i)), ← Int.natCast_add];exact Zd (by omega)};{exact Zg (Zd (n:=i+1) (by omega))}};{rw[Zb]at hb;simp at hb;omega}
 ·have e:i=kz.length:=by omega
  subst e;repeat' first|refine Jl ?_|refine Jb ?_ ?_|refine Jo ?_|intro hb
  {rw[Zb]at hb;simp at hb};{simp[Tm.size]}
theorem Zum (k:Int) (nm:List UInt8) (s:Int) (b:Bool) (kz:List Tm) (w:List UInt8):∀H,CO 230 [.agg [.int .i64 k,.str nm,.int .i64 s,slV b 4 (Za kz)],.str w] H (.bool (isF k nm w)) H:=by
 refine Jw tOk fe230.ok rfl ?_ (by simp[ZH,frzG,XA,frz1]);repeat' first|refine KM ?_|refine Jb ?_ ?_|refine Jo ?_|intro hb
 all_goals simp_all[isF]
theorem c38 (ht:t.Ok):∀n:Int, -9223372036854775808≤n→n≤9223372036854775807→∀H,CO 38 [.agg t.cells,.int .i64 n] H (.int .i64 (t.budget n)) H:=by
 induction ht with
 | @mk k nm s b kz hk hs hn hl hok ih=>
 intro n hn1 hn2;refine Jw tOk fe38.ok rfl ?_ (by simp[ZH,frzG,Tm.cells,XA,frz1]);repeat' first|refine KM ?_|refine Jb ?_ ?_|refine Jo ?_|intro hb
 {refine Zg ?_;simp at hb;simp[Tm.budget,hb]}
 ·refine Zg ?_;rename_i hb1;simp at hb hb1;have:40<nm.length:=by omega
  simp[Tm.budget,this]
 rename_i hb1;simp at hb hb1;have h40:¬ (n≤0∨40<nm.length):=by omega
 refine Wp.while (fun m tm H=>∃i base x,i+m=kz.length∧0≤x∧x≤n∧Wf kz (n-1)=Wf (kz.drop i) x∧tm=ovr base [(2,.ptr 0 4 0 0),(1,.int .i64 x),(5,.int .i64 (i:Int))]∧H=⟨[.cells 4 [[.int .i64 k,.str nm,.int .i64 s,slV b 4 (Za kz)]]],0,[],0⟩)
  (fun m tm H hI=>?_) kz.length _ _ ⟨0,_,n-1,by omega,by omega,by omega,by simp,Ze ⟨rfl,Zg (IntWalk.i64_in _ (by omega)),rfl,trivial⟩,rfl⟩
 obtain⟨i,base,x,hi,hx0,hxn,hbud,rfl,rfl⟩:=hI;unfold maxLen at hl;by_cases hlt:i<kz.length
 ·obtain⟨t',ht'⟩:∃t',kz[i]? = some t':=⟨kz[i],by simp⟩;have hm:t'∈kz:=List.mem_of_getElem? ht';have hdr:=Zw ht';have hc:=ih t' hm x (by omega) (by omega);have hbe:=t'.budget_eq x;obtain⟨bx,hbx⟩:∃bx,bx=t'.budget x:=⟨_,rfl⟩;rw[← hbx]at hc hbe;rw[hdr]at hbud;simp only[Wf, ← hbx]at hbud;obtain⟨k',nm',s',b',kz'⟩:=t';have hj:=Zj ht';repeat' first|refine Jc (hc _) ?_|refine Kx ?_|refine Jb ?_ ?_|refine Jo ?_|intro hb
  {refine Zg ?_;rename_i hb2;(have hb:bx<0:=by simpa using hb);simp only[Tm.budget,if_neg h40,hbud,if_pos hb]};{(have hb:¬ bx<0:=by simpa using hb);rw[if_neg hb]at hbud;refine LoopI.go (m-1) (by omega) ⟨i+1,_,bx,by omega,by omega,by have:=hbe (by omega);omega,hbud,Ze ⟨rfl,rfl,?_,trivial⟩,rfl⟩;exact Zg (Zd (n:=i+1) (by omega))};{rw[Zb]at hb;simp at hb;omega}
 ·have e:i=kz.length:=by omega
  subst e;repeat' first|refine Jl ?_|refine Jb ?_ ?_|refine Jo ?_|intro hb
  {rw[Zb]at hb;simp at hb};{refine Zg ?_;simp only[Tm.budget,if_neg h40,hbud];simp[Wf]}
theorem c17 {l:List Tm} (hok:∀t,t∈l→t.Ok) (hl:l.length≤maxLen) (b:Bool) {n most:Int} (hm1: -9223372036854775808≤most) (hm2:most≤9223372036854775807):∀H,CO 17 [slV b 4 (Za l),.int .i64 n,.int .i64 most] H (.bool (ZiN l n most)) H:=by
 refine Jw tOk fe17.ok rfl ?_;repeat' first|refine Kv ?_|refine Jb ?_ ?_|refine Jo ?_|intro hb
 {simp at hb;rw[Zb]at hb;simp[ZiN,hb]};rw[Zb]at hb;simp at hb;have hnl:¬ n<(l.length:Int):=by omega
 refine Wp.while (fun m tm H=>∃i base x,i+m=l.length∧ -9223372036854775808≤x∧x≤9223372036854775807∧Zj2 l most=Zj2 (l.drop i) x∧tm=ovr base [(0,slV b 4 (Za l)),(2,.int .i64 x),(7,.int .i64 (i:Int))]∧H=⟨[],0,[],0⟩)
  (fun m tm H hI=>?_) l.length _ _ ⟨0,_,most,by omega,by omega,by omega,by simp,Ze ⟨rfl,rfl,rfl,trivial⟩,rfl⟩
 obtain⟨i,base,x,hi,hx0,hxn,hbud,rfl,rfl⟩:=hI;unfold maxLen at hl;by_cases hlt:i<l.length
 ·obtain⟨t',ht'⟩:∃t',l[i]? = some t':=⟨l[i],by simp⟩;have hm:t'∈l:=List.mem_of_getElem? ht';have hdr:=Zw ht';have hc:=c38 (hok t' hm) x (by omega) (by omega);have hbe:=t'.budget_eq x;obtain⟨bx,hbx⟩:∃bx,bx=t'.budget x:=⟨_,rfl⟩;rw[← hbx]at hc hbe;rw[hdr]at hbud;simp only[Zj2, ← hbx]at hbud;obtain⟨k',nm',s',b',kz'⟩:=t';have hj:=Zj ht';repeat' first|refine Jc (hc _) ?_|refine Kx ?_|refine Jt ?_|refine Jb ?_ ?_|refine Jo ?_|intro hb
  {(have hb:bx<0:=by simpa using hb);simp[ZiN,hbud,if_pos hb]};{(have hb:¬ bx<0:=by simpa using hb);rw[if_neg hb]at hbud;refine LoopI.go (m-1) (by omega) ⟨i+1,_,bx,by omega,by omega,by have:=hbe (by omega);omega,hbud,Ze ⟨rfl,rfl,?_,trivial⟩,rfl⟩;exact Zg (Zd (n:=i+1) (by omega))};{rw[Zb]at hb;simp at hb;omega}
 ·have e:i=l.length:=by omega
  subst e;repeat' first|refine Kv ?_|refine Jb ?_ ?_|refine Jo ?_|intro hb
  {rw[Zb]at hb;simp at hb};{simp[ZiN,if_neg hnl,hbud,Zj2]}
end Go.Vm.Seat
namespace Go.Proofs
open Go.Shelf Go.RowKit Go.Sort Go.Lib
def Tryz.lays156_ren:Go.Shelf.Ren:=⟨fun|156=>43|165=>80|166=>18|169=>20|240=>39|241=>117|276=>77|277=>158|n=>n,fun|31=>29|9=>9|3=>3|4=>4|0=>0|20=>20|72=>49|76=>52|70=>46|37=>47|75=>51|127=>83|164=>114|5=>5|80=>55|n=>n,fun|n=>n⟩
theorem Tryz.lays156:Go.Proofs.Lays.n156 Tryz.prog Tryz.lays156_ren:={
 mixed:=by kernel_rfl
 f156:=Tryz.func43.trans (congrArg some (by kernel_rfl))
 f165:=Tryz.func80.trans (congrArg some (by kernel_rfl))
 f166:=Tryz.func18.trans (congrArg some (by kernel_rfl))
 f169:=Tryz.func20.trans (congrArg some (by kernel_rfl))
 f240:=Tryz.func39.trans (congrArg some (by kernel_rfl))
 f241:=Tryz.func117.trans (congrArg some (by kernel_rfl))
 f276:=Tryz.func77.trans (congrArg some (by kernel_rfl))
 f277:=Tryz.func158.trans (congrArg some (by kernel_rfl))
 t0:=Tryz.underlying0
 a0:=Tryz.isAgg0
 z0:=Tryz.sizeOf0
 v0:=Tryz.zeroValue0
 t3:=Tryz.underlying3
 a3:=Tryz.isAgg3
 z3:=Tryz.sizeOf3
 v3:=Tryz.zeroValue3
 t4:=Tryz.underlying4
 a4:=Tryz.isAgg4
 z4:=Tryz.sizeOf4
 v4:=Tryz.zeroValue4
 t9:=Tryz.underlying9
 a9:=Tryz.isAgg9
 z9:=Tryz.sizeOf9
 v9:=Tryz.zeroValue9
 t20:=Tryz.underlying20
 a20:=Tryz.isAgg20
 z20:=Tryz.sizeOf20
 v20:=Tryz.zeroValue20
 t31:=Tryz.underlying29
 a31:=Tryz.isAgg29
 z31:=Tryz.sizeOf29
 v31:=Tryz.zeroValue29
 t37:=Tryz.underlying47
 a37:=Tryz.isAgg47
 z37:=Tryz.sizeOf47
 v37:=Tryz.zeroValue47
 t70:=Tryz.underlying46
 a70:=Tryz.isAgg46
 z70:=Tryz.sizeOf46
 v70:=Tryz.zeroValue46
 t72:=Tryz.underlying49
 a72:=Tryz.isAgg49
 z72:=Tryz.sizeOf49
 v72:=Tryz.zeroValue49
 t75:=Tryz.underlying51
 a75:=Tryz.isAgg51
 z75:=Tryz.sizeOf51
 v75:=Tryz.zeroValue51
 t76:=Tryz.underlying52
 a76:=Tryz.isAgg52
 z76:=Tryz.sizeOf52
 v76:=Tryz.zeroValue52
 t127:=Tryz.underlying83
 a127:=Tryz.isAgg83
 z127:=Tryz.sizeOf83
 v127:=Tryz.zeroValue83
 t164:=Tryz.underlying114
 a164:=Tryz.isAgg114
 z164:=Tryz.sizeOf114
 v164:=Tryz.zeroValue114}
theorem Tryz.Builder_Extra_156:Builder.Extra Tryz.prog Tryz.lays156_ren:={
 sizeBuilder:=by kernel_rfl
 liesBuilder:=by kernel_rfl
 t5:=Tryz.underlying5
 a5:=Tryz.isAgg5
 z5:=Tryz.sizeOf5
 v5:=Tryz.zeroValue5
 infoByte:=by kernel_rfl
 cellsByte:=by kernel_rfl
 sizeByte:=by kernel_rfl
 neB5:=by decide}
theorem Tryz.strings_Join_none (a : Option Addr) (c : Nat) (sep : ByteArray) (w : World) :
  Calls Tryz.prog 43 #[.slice a 0 c,.string sep] w fun e w'=>e= .returned (.string ⟨#[]⟩)∧w'=w:=Any.strings_Join_none Tryz.lays156 Tryz.Builder_Extra_156 a c sep w
theorem Tryz.strings_Join (bk o c : Nat) (xs : List ByteArray) (sep : ByteArray) (w : World) (hcells : ∀(j : Nat) x, xs[j]? = some x → w.cell? ⟨bk, o + j, none⟩ = some (.string x)) (hbk : bk < w.heap.size) (hN : xs.length ≤ 140737488355328) (hcap : xs.length ≤ c) (hlen : (Lib.join (xs.map (·.data.toList)) sep.data.toList).length ≤ 140737488355328) :
  Calls Tryz.prog 43 #[.slice (some ⟨bk,o,none⟩) xs.length c,.string sep] w fun e w'=>e= .returned (.string ⟨(Lib.join (xs.map (·.data.toList)) sep.data.toList).toArray⟩)∧Below w.heap.size w w':=Any.strings_Join Tryz.lays156 Tryz.Builder_Extra_156 bk o c xs sep w hcells hbk hN hcap hlen
def Tryz.lays129_ren:Go.Shelf.Ren:=⟨fun|129=>113|n=>n,fun|53=>144|3=>3|4=>4|46=>110|5=>5|9=>9|n=>n,fun|n=>n⟩
theorem Tryz.lays129:Go.Proofs.Lays.n129 Tryz.prog Tryz.lays129_ren:={
 mixed:=by kernel_rfl
 f129:=Tryz.func113.trans (congrArg some (by kernel_rfl))
 t3:=Tryz.underlying3
 a3:=Tryz.isAgg3
 z3:=Tryz.sizeOf3
 v3:=Tryz.zeroValue3
 t4:=Tryz.underlying4
 a4:=Tryz.isAgg4
 z4:=Tryz.sizeOf4
 v4:=Tryz.zeroValue4
 t5:=Tryz.underlying5
 a5:=Tryz.isAgg5
 z5:=Tryz.sizeOf5
 v5:=Tryz.zeroValue5
 t9:=Tryz.underlying9
 a9:=Tryz.isAgg9
 z9:=Tryz.sizeOf9
 v9:=Tryz.zeroValue9
 t46:=Tryz.underlying110
 a46:=Tryz.isAgg110
 z46:=Tryz.sizeOf110
 v46:=Tryz.zeroValue110
 t53:=Tryz.underlying144
 a53:=Tryz.isAgg144
 z53:=Tryz.sizeOf144
 v53:=Tryz.zeroValue144}
theorem Tryz.bits_Len64 (x : Int) (w : World) (h0 : 0 ≤ x) (h1 : x ≤ 18446744073709551615) :
  Calls Tryz.prog 113 #[.int .u64 x] w fun e w'=>e= .returned (.int .i64 (Lib.bitLen x.toNat))∧w'=w:=Any.bits_Len64 Tryz.lays129 x w h0 h1
def Tryz.lays317_ren:Go.Shelf.Ren:=⟨fun|317=>183|n=>n,fun|3=>3|46=>110|n=>n,fun|n=>n⟩
theorem Tryz.lays317:Go.Proofs.Lays.n317 Tryz.prog Tryz.lays317_ren:={
 mixed:=by kernel_rfl
 f317:=Tryz.func183.trans (congrArg some (by kernel_rfl))
 t3:=Tryz.underlying3
 a3:=Tryz.isAgg3
 z3:=Tryz.sizeOf3
 v3:=Tryz.zeroValue3
 t46:=Tryz.underlying110
 a46:=Tryz.isAgg110
 z46:=Tryz.sizeOf110
 v46:=Tryz.zeroValue110}
theorem Tryz.internal_strconv_log10Pow2 (x : Nat) (h : x ≤ 64) (w : World) :
  Calls Tryz.prog 183 #[.int .i64 x] w fun e w'=>e= .returned (.int .i64 (Lib.l10 x))∧w'=w:=Any.internal_strconv_log10Pow2 Tryz.lays317 x h w
def Tryz.lays318_ren:Go.Shelf.Ren:=⟨fun|318=>184|n=>n,fun|3=>3|4=>4|n=>n,fun|n=>n⟩
theorem Tryz.lays318:Go.Proofs.Lays.n318 Tryz.prog Tryz.lays318_ren:={
 mixed:=by kernel_rfl
 f318:=Tryz.func184.trans (congrArg some (by kernel_rfl))
 t3:=Tryz.underlying3
 a3:=Tryz.isAgg3
 z3:=Tryz.sizeOf3
 v3:=Tryz.zeroValue3
 t4:=Tryz.underlying4
 a4:=Tryz.isAgg4
 z4:=Tryz.sizeOf4
 v4:=Tryz.zeroValue4}
theorem Tryz.internal_strconv_bool2_int (b : Bool) (w : World) :
  Calls Tryz.prog 184 #[.bool b] w fun e w'=>e= .returned (.int .i64 (if b then 1 else 0))∧w'=w:=Any.internal_strconv_bool2_int Tryz.lays318 b w
def Tryz.lays283_ren:Go.Shelf.Ren:=⟨fun|283=>154|n=>n,fun|3=>3|9=>9|4=>4|n=>n,fun|n=>n⟩
theorem Tryz.lays283:Go.Proofs.Lays.n283 Tryz.prog Tryz.lays283_ren:={
 mixed:=by kernel_rfl
 f283:=Tryz.func154.trans (congrArg some (by kernel_rfl))
 t3:=Tryz.underlying3
 a3:=Tryz.isAgg3
 z3:=Tryz.sizeOf3
 v3:=Tryz.zeroValue3
 t4:=Tryz.underlying4
 a4:=Tryz.isAgg4
 z4:=Tryz.sizeOf4
 v4:=Tryz.zeroValue4
 t9:=Tryz.underlying9
 a9:=Tryz.isAgg9
 z9:=Tryz.sizeOf9
 v9:=Tryz.zeroValue9}
theorem Tryz.internal_strconv_small (i : Nat) (h : i < 100) (w : World) :
  Calls Tryz.prog 154 #[.int .i64 i] w fun e w'=>e= .returned (.string ⟨(Lib.decDigits i).toArray⟩)∧w'=w:=Any.internal_strconv_small Tryz.lays283 i h w
def Tryz.lays285_ren:Go.Shelf.Ren:=⟨fun|285=>156|n=>n,fun|37=>47|53=>144|3=>3|4=>4|51=>142|9=>9|5=>5|0=>0|n=>n,fun|n=>n⟩
theorem Tryz.lays285:Go.Proofs.Lays.n285 Tryz.prog Tryz.lays285_ren:={
 mixed:=by kernel_rfl
 f285:=Tryz.func156.trans (congrArg some (by kernel_rfl))
 t0:=Tryz.underlying0
 a0:=Tryz.isAgg0
 z0:=Tryz.sizeOf0
 v0:=Tryz.zeroValue0
 t3:=Tryz.underlying3
 a3:=Tryz.isAgg3
 z3:=Tryz.sizeOf3
 v3:=Tryz.zeroValue3
 t4:=Tryz.underlying4
 a4:=Tryz.isAgg4
 z4:=Tryz.sizeOf4
 v4:=Tryz.zeroValue4
 t5:=Tryz.underlying5
 a5:=Tryz.isAgg5
 z5:=Tryz.sizeOf5
 v5:=Tryz.zeroValue5
 t9:=Tryz.underlying9
 a9:=Tryz.isAgg9
 z9:=Tryz.sizeOf9
 v9:=Tryz.zeroValue9
 t37:=Tryz.underlying47
 a37:=Tryz.isAgg47
 z37:=Tryz.sizeOf47
 v37:=Tryz.zeroValue47
 t51:=Tryz.underlying142
 a51:=Tryz.isAgg142
 z51:=Tryz.sizeOf142
 v51:=Tryz.zeroValue142
 t53:=Tryz.underlying144
 a53:=Tryz.isAgg144
 z53:=Tryz.sizeOf144
 v53:=Tryz.zeroValue144}
theorem Tryz.internal_strconv_formatBase10 (blk off cap : Nat) (u : Nat) (d : Array UInt8) (w : World) (hH : Holds (fun (b : UInt8) => Value.int .u8 (b.toNat : Int)) w blk off d) (hu : u < 10 ^ d.size) (hu64 : u < 18446744073709551616) (hsz : d.size < 4611686018427387904) :
  Calls Tryz.prog 156 #[.slice (some ⟨blk,off,none⟩) d.size cap,.int .u64 u] w fun e w'=>
   e= .returned (.tuple #[])∧∃(n v':Nat) (dk:Array UInt8),w'=(putRow (fun (b:UInt8)=>Value.int .u8 (b.toNat:Int)) w blk off dk).drewN n∧FmtInv d.size u 0 v' dk:=Any.internal_strconv_formatBase10 Tryz.lays285 blk off cap u d w hH hu hu64 hsz
def Tryz.laysC172_ren:Go.Shelf.Ren:=⟨fun|172=>52|244=>88|245=>89|247=>131|279=>132|280=>133|281=>134|282=>135|287=>176|316=>177|171=>41|205=>178|321=>198|322=>199|243=>78|246=>115|283=>154|284=>155|285=>156|286=>157|129=>113|317=>183|318=>184|319=>185|320=>186|337=>201|338=>202|n=>n,fun|9=>9|3=>3|75=>51|76=>52|4=>4|5=>5|167=>152|37=>47|0=>0|85=>153|2=>2|168=>155|53=>144|175=>185|46=>110|210=>188|127=>83|145=>204|143=>202|21=>21|171=>169|173=>171|212=>194|51=>142|20=>20|213=>195|232=>218|233=>219|80=>55|n=>n,fun|15=>2|16=>3|17=>4|18=>7|19=>8|n=>n⟩
theorem Tryz.laysC172:Go.Proofs.LaysC.n172 Tryz.prog Tryz.laysC172_ren:={
 mixed:=by kernel_rfl
 f129:=Tryz.func113.trans (congrArg some (by kernel_rfl))
 f171:=Tryz.func41.trans (congrArg some (by kernel_rfl))
 f172:=Tryz.func52.trans (congrArg some (by kernel_rfl))
 f205:=Tryz.func178.trans (congrArg some (by kernel_rfl))
 f243:=Tryz.func78.trans (congrArg some (by kernel_rfl))
 f244:=Tryz.func88.trans (congrArg some (by kernel_rfl))
 f245:=Tryz.func89.trans (congrArg some (by kernel_rfl))
 f246:=Tryz.func115.trans (congrArg some (by kernel_rfl))
 f247:=Tryz.func131.trans (congrArg some (by kernel_rfl))
 f279:=Tryz.func132.trans (congrArg some (by kernel_rfl))
 f280:=Tryz.func133.trans (congrArg some (by kernel_rfl))
 f281:=Tryz.func134.trans (congrArg some (by kernel_rfl))
 f282:=Tryz.func135.trans (congrArg some (by kernel_rfl))
 f283:=Tryz.func154.trans (congrArg some (by kernel_rfl))
 f284:=Tryz.func155.trans (congrArg some (by kernel_rfl))
 f285:=Tryz.func156.trans (congrArg some (by kernel_rfl))
 f286:=Tryz.func157.trans (congrArg some (by kernel_rfl))
 f287:=Tryz.func176.trans (congrArg some (by kernel_rfl))
 f316:=Tryz.func177.trans (congrArg some (by kernel_rfl))
 f317:=Tryz.func183.trans (congrArg some (by kernel_rfl))
 f318:=Tryz.func184.trans (congrArg some (by kernel_rfl))
 f319:=Tryz.func185.trans (congrArg some (by kernel_rfl))
 f320:=Tryz.func186.trans (congrArg some (by kernel_rfl))
 f321:=Tryz.func198.trans (congrArg some (by kernel_rfl))
 f322:=Tryz.func199.trans (congrArg some (by kernel_rfl))
 f337:=Tryz.func201.trans (congrArg some (by kernel_rfl))
 f338:=Tryz.func202.trans (congrArg some (by kernel_rfl))
 t0:=Tryz.underlying0
 a0:=Tryz.isAgg0
 z0:=Tryz.sizeOf0
 v0:=Tryz.zeroValue0
 t2:=Tryz.underlying2
 a2:=Tryz.isAgg2
 z2:=Tryz.sizeOf2
 v2:=Tryz.zeroValue2
 t3:=Tryz.underlying3
 a3:=Tryz.isAgg3
 z3:=Tryz.sizeOf3
 v3:=Tryz.zeroValue3
 t4:=Tryz.underlying4
 a4:=Tryz.isAgg4
 z4:=Tryz.sizeOf4
 v4:=Tryz.zeroValue4
 t5:=Tryz.underlying5
 a5:=Tryz.isAgg5
 z5:=Tryz.sizeOf5
 v5:=Tryz.zeroValue5
 t9:=Tryz.underlying9
 a9:=Tryz.isAgg9
 z9:=Tryz.sizeOf9
 v9:=Tryz.zeroValue9
 t20:=Tryz.underlying20
 a20:=Tryz.isAgg20
 z20:=Tryz.sizeOf20
 v20:=Tryz.zeroValue20
 t21:=Tryz.underlying21
 a21:=Tryz.isAgg21
 z21:=Tryz.sizeOf21
 v21:=Tryz.zeroValue21
 t37:=Tryz.underlying47
 a37:=Tryz.isAgg47
 z37:=Tryz.sizeOf47
 v37:=Tryz.zeroValue47
 t46:=Tryz.underlying110
 a46:=Tryz.isAgg110
 z46:=Tryz.sizeOf110
 v46:=Tryz.zeroValue110
 t51:=Tryz.underlying142
 a51:=Tryz.isAgg142
 z51:=Tryz.sizeOf142
 v51:=Tryz.zeroValue142
 t53:=Tryz.underlying144
 a53:=Tryz.isAgg144
 z53:=Tryz.sizeOf144
 v53:=Tryz.zeroValue144
 t75:=Tryz.underlying51
 a75:=Tryz.isAgg51
 z75:=Tryz.sizeOf51
 v75:=Tryz.zeroValue51
 t76:=Tryz.underlying52
 a76:=Tryz.isAgg52
 z76:=Tryz.sizeOf52
 v76:=Tryz.zeroValue52
 t85:=Tryz.underlying153
 a85:=Tryz.isAgg153
 z85:=Tryz.sizeOf153
 v85:=Tryz.zeroValue153
 t127:=Tryz.underlying83
 a127:=Tryz.isAgg83
 z127:=Tryz.sizeOf83
 v127:=Tryz.zeroValue83
 t143:=Tryz.underlying202
 a143:=Tryz.isAgg202
 z143:=Tryz.sizeOf202
 v143:=Tryz.zeroValue202
 t145:=Tryz.underlying204
 a145:=Tryz.isAgg204
 z145:=Tryz.sizeOf204
 v145:=Tryz.zeroValue204
 t167:=Tryz.underlying152
 a167:=Tryz.isAgg152
 z167:=Tryz.sizeOf152
 v167:=Tryz.zeroValue152
 t168:=Tryz.underlying155
 a168:=Tryz.isAgg155
 z168:=Tryz.sizeOf155
 v168:=Tryz.zeroValue155
 t171:=Tryz.underlying169
 a171:=Tryz.isAgg169
 z171:=Tryz.sizeOf169
 v171:=Tryz.zeroValue169
 t173:=Tryz.underlying171
 a173:=Tryz.isAgg171
 z173:=Tryz.sizeOf171
 v173:=Tryz.zeroValue171
 t175:=Tryz.underlying185
 a175:=Tryz.isAgg185
 z175:=Tryz.sizeOf185
 v175:=Tryz.zeroValue185
 t210:=Tryz.underlying188
 a210:=Tryz.isAgg188
 z210:=Tryz.sizeOf188
 v210:=Tryz.zeroValue188
 t212:=Tryz.underlying194
 a212:=Tryz.isAgg194
 z212:=Tryz.sizeOf194
 v212:=Tryz.zeroValue194
 t213:=Tryz.underlying195
 a213:=Tryz.isAgg195
 z213:=Tryz.sizeOf195
 t232:=Tryz.underlying218
 a232:=Tryz.isAgg218
 z232:=Tryz.sizeOf218
 v232:=Tryz.zeroValue218
 t233:=Tryz.underlying219
 a233:=Tryz.isAgg219
 z233:=Tryz.sizeOf219
 v233:=Tryz.zeroValue219
 g15:=by kernel_rfl
 g16:=by kernel_rfl
 g17:=by kernel_rfl
 g18:=by kernel_rfl
 g19:=by kernel_rfl
 t80:=Tryz.underlying55
 a80:=Tryz.isAgg55
 z80:=Tryz.sizeOf55
 v80:=Tryz.zeroValue55
 i0:=by kernel_rfl
 i2:=by kernel_rfl
 i3:=by kernel_rfl
 i4:=by kernel_rfl
 i5:=by kernel_rfl
 i9:=by kernel_rfl
 i20:=by kernel_rfl
 i21:=by kernel_rfl
 i37:=by kernel_rfl
 i46:=by kernel_rfl
 i51:=by kernel_rfl
 i53:=by kernel_rfl
 i75:=by kernel_rfl
 i76:=by kernel_rfl
 i80:=by kernel_rfl
 i85:=by kernel_rfl
 i127:=by kernel_rfl
 i143:=by kernel_rfl
 i145:=by kernel_rfl
 i167:=by kernel_rfl
 i168:=by kernel_rfl
 i171:=by kernel_rfl
 i173:=by kernel_rfl
 i175:=by kernel_rfl
 i210:=by kernel_rfl
 i212:=by kernel_rfl
 i232:=by kernel_rfl
 i233:=by kernel_rfl
 m15:=by kernel_rfl
 m16:=by kernel_rfl
 m17:=by kernel_rfl
 m18:=by kernel_rfl
 m19:=by kernel_rfl
 c0:=by kernel_rfl
 c2:=by kernel_rfl
 c3:=by kernel_rfl
 c4:=by kernel_rfl
 c5:=by kernel_rfl
 c9:=by kernel_rfl
 c20:=by kernel_rfl
 c21:=by kernel_rfl
 c37:=by kernel_rfl
 c46:=by kernel_rfl
 c51:=by kernel_rfl
 c53:=by kernel_rfl
 c75:=by kernel_rfl
 c76:=by kernel_rfl
 c80:=by kernel_rfl
 c85:=by kernel_rfl
 c127:=by kernel_rfl
 c143:=by kernel_rfl
 c145:=by kernel_rfl
 c167:=by kernel_rfl
 c168:=by kernel_rfl
 c171:=by kernel_rfl
 c173:=by kernel_rfl
 c175:=by kernel_rfl
 c210:=by kernel_rfl
 c212:=by kernel_rfl
 c213:=by kernel_rfl
 c232:=by kernel_rfl
 c233:=by kernel_rfl}
theorem Tryz.strconv_Atoi_ok (s : ByteArray) (hmax : s.size ≤ 9223372036854775806) (v : Int) (h : Lib.atoiAll s.data.toList = .ok v) (w : World) :
  Calls Tryz.prog 52 #[.string s] w fun e w'=>e= .returned (.tuple #[.int .i64 v,.nilIface])∧(w'=w∨∃t,w'=Lib.bytesWorld w 5 t):=Any.strconv_Atoi_ok Tryz.laysC172 s hmax v h w
theorem Tryz.strconv_Atoi_syntax (s:ByteArray) (hlim:s.size≤281474976710656) (hok:∀v,Lib.atoiAll s.data.toList≠ .ok v) (hr:Lib.atoiAll s.data.toList≠ .range) (ev:Value) (w:World) (hv:w.cell? ⟨2,0,none⟩=some ev) (hev:ev= .nilIface∨∃te pe,ev= .iface te pe):Calls Tryz.prog 52 #[.string s] w fun e w'=>∃N,e= .returned (.tuple #[.int .i64 (0),.iface 155 (.pointer (some ⟨N,0,none⟩))])∧w.heap.size≤N∧w'.heap[N]? = some (.cells #[.string ⟨#[65,116,111,105]⟩,.string s,ev] 188 (0,0))∧Below w.heap.size w w':=by cases h:Lib.atoiAll s.data.toList;{exact(hok _ h).elim};{exact Any.strconv_Atoi_syntax Tryz.laysC172 s hlim h ev w hv hev};{exact(hr h).elim}
theorem Tryz.strconv_Atoi_range (s : ByteArray) (hlim : s.size ≤ 281474976710656) (h : Lib.atoiAll s.data.toList = .range) (ev : Value) (w : World) (hv : w.cell? ⟨3, 0, none⟩ = some ev) (hev : ev = .nilIface ∨ ∃te pe, ev = .iface te pe) :
  Calls Tryz.prog 52 #[.string s] w fun e w'=>∃N,e= .returned (.tuple #[.int .i64 (Lib.atoiSat s.data.toList),.iface 155 (.pointer (some ⟨N,0,none⟩))])∧w.heap.size≤N∧w'.heap[N]? = some (.cells #[.string ⟨#[65,116,111,105]⟩,.string s,ev] 188 (0,0))∧Below w.heap.size w w':=Any.strconv_Atoi_range Tryz.laysC172 s hlim h ev w hv hev
def Tryz.lays145_ren:Go.Shelf.Ren:=⟨fun|145=>24|220=>48|219=>86|217=>125|225=>126|224=>127|267=>128|266=>171|314=>172|n=>n,fun|9=>9|4=>4|59=>59|3=>3|5=>5|46=>110|146=>181|51=>142|n=>n,fun|1=>1|n=>n⟩
theorem Tryz.lays145:Go.Proofs.Lays.n145 Tryz.prog Tryz.lays145_ren:={
 mixed:=by kernel_rfl
 f145:=Tryz.func24.trans (congrArg some (by kernel_rfl))
 f217:=Tryz.func125.trans (congrArg some (by kernel_rfl))
 f219:=Tryz.func86.trans (congrArg some (by kernel_rfl))
 f220:=Tryz.func48.trans (congrArg some (by kernel_rfl))
 f224:=Tryz.func127.trans (congrArg some (by kernel_rfl))
 f225:=Tryz.func126.trans (congrArg some (by kernel_rfl))
 f266:=Tryz.func171.trans (congrArg some (by kernel_rfl))
 f267:=Tryz.func128.trans (congrArg some (by kernel_rfl))
 f314:=Tryz.func172.trans (congrArg some (by kernel_rfl))
 t3:=Tryz.underlying3
 a3:=Tryz.isAgg3
 z3:=Tryz.sizeOf3
 v3:=Tryz.zeroValue3
 t4:=Tryz.underlying4
 a4:=Tryz.isAgg4
 z4:=Tryz.sizeOf4
 v4:=Tryz.zeroValue4
 t5:=Tryz.underlying5
 a5:=Tryz.isAgg5
 z5:=Tryz.sizeOf5
 v5:=Tryz.zeroValue5
 t9:=Tryz.underlying9
 a9:=Tryz.isAgg9
 z9:=Tryz.sizeOf9
 v9:=Tryz.zeroValue9
 t46:=Tryz.underlying110
 a46:=Tryz.isAgg110
 z46:=Tryz.sizeOf110
 v46:=Tryz.zeroValue110
 t51:=Tryz.underlying142
 a51:=Tryz.isAgg142
 z51:=Tryz.sizeOf142
 v51:=Tryz.zeroValue142
 t59:=Tryz.underlying59
 a59:=Tryz.isAgg59
 z59:=Tryz.sizeOf59
 v59:=Tryz.zeroValue59
 t146:=Tryz.underlying181
 a146:=Tryz.isAgg181
 z146:=Tryz.sizeOf181
 v146:=Tryz.zeroValue181
 g1:=by kernel_rfl}
theorem Tryz.strings_Cut (s sep : ByteArray) (m : Int) (w : World) (hs : s.size < 4294967281) (hm : w.cell? ⟨1, 0, none⟩ = some (.int .i64 m)) :
  Calls Tryz.prog 24 #[.string s,.string sep] w fun e w'=>e= .returned (.tuple #[.string ⟨(Lib.cut s.data.toList sep.data.toList).1.toArray⟩,.string ⟨(Lib.cut s.data.toList sep.data.toList).2.1.toArray⟩,.bool (Lib.cut s.data.toList sep.data.toList).2.2])∧∃n,w'=w.drewN n:=Any.strings_Cut Tryz.lays145 s sep m w hs hm
def Tryz.lays146_ren:Go.Shelf.Ren:=⟨fun|146=>49|221=>87|268=>129|138=>130|143=>99|195=>173|197=>174|218=>175|219=>86|260=>197|217=>125|225=>126|224=>127|267=>128|266=>171|314=>172|n=>n,fun|9=>9|31=>29|3=>3|4=>4|0=>0|105=>183|21=>21|5=>5|46=>110|119=>214|139=>217|138=>216|146=>181|51=>142|n=>n,fun|1=>1|3=>5|4=>6|n=>n⟩
theorem Tryz.lays146:Go.Proofs.Lays.n146 Tryz.prog Tryz.lays146_ren:={
 mixed:=by kernel_rfl
 f138:=Tryz.func130.trans (congrArg some (by kernel_rfl))
 f143:=Tryz.func99.trans (congrArg some (by kernel_rfl))
 f146:=Tryz.func49.trans (congrArg some (by kernel_rfl))
 f195:=Tryz.func173.trans (congrArg some (by kernel_rfl))
 f197:=Tryz.func174.trans (congrArg some (by kernel_rfl))
 f217:=Tryz.func125.trans (congrArg some (by kernel_rfl))
 f218:=Tryz.func175.trans (congrArg some (by kernel_rfl))
 f219:=Tryz.func86.trans (congrArg some (by kernel_rfl))
 f221:=Tryz.func87.trans (congrArg some (by kernel_rfl))
 f224:=Tryz.func127.trans (congrArg some (by kernel_rfl))
 f225:=Tryz.func126.trans (congrArg some (by kernel_rfl))
 f260:=Tryz.func197.trans (congrArg some (by kernel_rfl))
 f266:=Tryz.func171.trans (congrArg some (by kernel_rfl))
 f267:=Tryz.func128.trans (congrArg some (by kernel_rfl))
 f268:=Tryz.func129.trans (congrArg some (by kernel_rfl))
 f314:=Tryz.func172.trans (congrArg some (by kernel_rfl))
 t0:=Tryz.underlying0
 a0:=Tryz.isAgg0
 z0:=Tryz.sizeOf0
 v0:=Tryz.zeroValue0
 t3:=Tryz.underlying3
 a3:=Tryz.isAgg3
 z3:=Tryz.sizeOf3
 v3:=Tryz.zeroValue3
 t4:=Tryz.underlying4
 a4:=Tryz.isAgg4
 z4:=Tryz.sizeOf4
 v4:=Tryz.zeroValue4
 t5:=Tryz.underlying5
 a5:=Tryz.isAgg5
 z5:=Tryz.sizeOf5
 v5:=Tryz.zeroValue5
 t9:=Tryz.underlying9
 a9:=Tryz.isAgg9
 z9:=Tryz.sizeOf9
 v9:=Tryz.zeroValue9
 t21:=Tryz.underlying21
 a21:=Tryz.isAgg21
 z21:=Tryz.sizeOf21
 v21:=Tryz.zeroValue21
 t31:=Tryz.underlying29
 a31:=Tryz.isAgg29
 z31:=Tryz.sizeOf29
 v31:=Tryz.zeroValue29
 t46:=Tryz.underlying110
 a46:=Tryz.isAgg110
 z46:=Tryz.sizeOf110
 v46:=Tryz.zeroValue110
 t51:=Tryz.underlying142
 a51:=Tryz.isAgg142
 z51:=Tryz.sizeOf142
 v51:=Tryz.zeroValue142
 t105:=Tryz.underlying183
 a105:=Tryz.isAgg183
 z105:=Tryz.sizeOf183
 v105:=Tryz.zeroValue183
 t119:=Tryz.underlying214
 a119:=Tryz.isAgg214
 z119:=Tryz.sizeOf214
 t138:=Tryz.underlying216
 a138:=Tryz.isAgg216
 z138:=Tryz.sizeOf216
 v138:=Tryz.zeroValue216
 t139:=Tryz.underlying217
 a139:=Tryz.isAgg217
 z139:=Tryz.sizeOf217
 v139:=Tryz.zeroValue217
 t146:=Tryz.underlying181
 a146:=Tryz.isAgg181
 z146:=Tryz.sizeOf181
 v146:=Tryz.zeroValue181
 g1:=by kernel_rfl
 g3:=by kernel_rfl
 g4:=by kernel_rfl}
theorem Tryz.strings_Split (s sep : ByteArray) (m : Int) (w : World) (hs : s.size < 4294967281) (hm : w.cell? ⟨1, 0, none⟩ = some (.int .i64 m)) (h1 : 1 ≤ sep.size) :
  Calls Tryz.prog 49 #[.string s,.string sep] w fun e w'=>
   e= .returned (.slice (some ⟨w.heap.size,0,none⟩) (Lib.countB s sep+1) (Lib.countB s sep+1))∧w'=w.alloc (.cells ((Lib.splitB sep 0 (Lib.countB s sep) s).map Value.string).toArray 9):=Any.strings_Split Tryz.lays146 (by kernel_rfl) s sep m w hs hm h1
