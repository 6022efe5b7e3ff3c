/-
  The environment of the evaluator at this seat. The first dot of a string, the number of its dots, its parts. What the shelf knows of some of the library's functions, at this program.
-/
import Derived.Test.YtjokjgoppbmaiaaGreatDoorAwTab
import Derived.Test.YtjokjgoppbmaiaaGreatDoorFh
import Derived.IntWalk
import Derived.Shelf.Strings.OnBuilder
import Derived.Shelf.Strconv.Itoa0
import Derived.Shelf.Strconv.Itoa1
import Derived.Shelf.LaysM
import Derived.Shelf.Strconv.Itoa2
import Derived.Shelf.LaysC
import Derived.Shelf.Strconv.AtoiAll
import Derived.Shelf.Strings.Prefix
import Derived.Ground.Names2Prog
import Derived.Shelf.Slices.Delete
import Derived.Test.YtjokjgoppbmaiaaGreatDoorProg
namespace Go.Vm.Seat
open Go.Proofs
noncomputable def zl:List (Nat×ZF):=[(299,idxZ),(295,cntZ),(203,joinZ),(281,ccZ 224),(250,bstrZ 224),(263,cmpZ)]
def pow10C:List PV:=[.int .u64 1,.int .u64 10,.int .u64 100,.int .u64 1000,.int .u64 10000,.int .u64 100000,.int .u64 1000000,.int .u64 10000000,.int .u64 100000000,.int .u64 1000000000,.int .u64 10000000000,.int .u64 100000000000,.int .u64 1000000000000,.int .u64 10000000000000,.int .u64 100000000000000,.int .u64 1000000000000000,.int .u64 10000000000000000,.int .u64 100000000000000000,.int .u64 1000000000000000000,.int .u64 10000000000000000000]
noncomputable def E0:Env where
 T:=getT tabT
 F:=fun f=>match hasZ zl f with | true=>none | false=>getF tabF f
 G:=fun k=>(match Nat.beq k 1 with | true=>some pow10C | false=>none)
 Z:=findZ zl
 eff:=fun f=>[259,185,107,228,229,260,291,312,261,249,281,250].any (Nat.beq f)
 own:=fun f d=>[(236,31)].any fun x=>Nat.beq f x.1 && Nat.beq d x.2
 tyd:=fun t=>Nat.beq t 224
 I:=fun k=>[2,3].any (Nat.beq k)
 mono:=false
theorem tOk:TOk E0 Tryz.prog:=⟨fun _ _ h=>getT_ok h⟩
theorem fOk:FOk E0 Tryz.prog:=fun f fn c h hb=>by
 simp only [E0] at h
 split at h
 · cases h
 · exact getF_ok h hb
theorem follows:Tryz.prog.follows .mixedOrders=true:=by kernel_rfl
noncomputable def E1:Env:={E0 with mono:=true}
theorem tOk1:TOk E1 Tryz.prog:=⟨fun _ _ h=>getT_ok h⟩
set_option maxRecDepth 100000 in
theorem toE0 {f:FuncId} {args:List PV} {H H':Heap} {r:PV} (h:CallOk E1 Tryz.prog f args H r H'):CallOk E0 Tryz.prog f args H r H':=CallOk.env (E:=E1) (E':=E0) (hG:=rfl) (hI:=rfl) (hm:=fun _=>rfl) h
end Go.Vm.Seat
namespace Go.Vm.Seat
theorem byte46 (c:UInt8):((c.toNat:Int)=46)↔c=46:=by
 constructor
 · intro h
   apply UInt8.toNat_inj.1
   have:c.toNat=46:=by omega
   rw [this];rfl
 · rintro rfl;rfl
theorem idx_gen : ∀ (s : Bs) (k : Nat), (idxB s 46 k = -1 ∧ cntB s 46 = 0 ∧ splitD s = [s]) ∨
  ∃ a b,s=a ++ 46 :: b∧idxB s 46 k=((k+a.length:Nat):Int)∧splitD s=a :: splitD b∧cntB s 46=cntB b 46+1
 | [],k=> .inl ⟨rfl,rfl,rfl⟩
 | c :: r, k => by
   by_cases h:c=46
   · subst h
     refine .inr ⟨[],r,rfl,?_,?_,?_⟩
     · simp [idxB]
     · simp [splitD]
     · simp [cntB]
   · have h1 : ¬ ((c.toNat : Int) = 46) := fun e => h ((byte46 c).1 e)
     have h2:(c == 46)=false:=by simpa using h
     have e1:idxB (c :: r) 46 k=idxB r 46 (k+1):=by simp [idxB,h1]
     have e2:cntB (c :: r) 46=cntB r 46:=by simp [cntB,h1]
     rw [e1,e2]
     rcases idx_gen r (k+1) with ⟨q1,q2,q3⟩ | ⟨a,b,q1,q2,q3,q4⟩
     · exact .inl ⟨q1,q2,by simp only [splitD,h2,q3]⟩
     · refine .inr ⟨c :: a, b, by rw [q1]; rfl, ?_, by simp only [splitD, h2, q3], q4⟩
       rw [q2]
       simp
       omega
theorem idx_cases (s : Bs) : (idxB s 46 0 = -1 ∧ cntB s 46 = 0 ∧ splitD s = [s]) ∨
  ∃ a b,s=a ++ 46 :: b∧idxB s 46 0=(a.length:Int)∧splitD s=a :: splitD b∧cntB s 46=cntB b 46+1:=by
 have:=idx_gen s 0
 simpa using this
def cntN:Bs→Nat
 | []=>0
 | b :: r=>if b=46 then cntN r+1 else cntN r
theorem cntB_nat:∀ s:Bs,cntB s 46=(cntN s:Int)
 | []=>rfl
 | b :: r => by
   simp only [cntB,cntN,byte46]
   split
   · rw [cntB_nat r];simp
   · exact cntB_nat r
theorem cntN_le:∀ s:Bs,cntN s≤s.length
 | []=>Nat.le_refl _
 | b :: r => by
   simp only [cntN,List.length_cons]
   have:=cntN_le r
   split <;> omega
end Go.Vm.Seat
namespace Go.Proofs
open Go.Shelf Go.RowKit Go.Sort Go.Lib
def Tryz.lays156_ren:Go.Shelf.Ren:=⟨fun | 156=>203 | 165=>248 | 166=>249 | 169=>250 | 240=>281 | 241=>282 | 276=>306 | 277=>307 | n=>n,fun | 31=>47 | 9=>9 | 3=>3 | 4=>4 | 0=>0 | 20=>20 | 72=>224 | 76=>195 | 70=>221 | 37=>222 | 75=>194 | 127=>246 | 164=>263 | 5=>5 | 80=>226 | n=>n,fun | n=>n⟩
theorem Tryz.lays156:Go.Proofs.Lays.n156 Tryz.prog Tryz.lays156_ren:={
 mixed:=by kernel_rfl
 f156:=Tryz.func203.trans (congrArg some (by kernel_rfl))
 f165:=Tryz.func248.trans (congrArg some (by kernel_rfl))
 f166:=Tryz.func249.trans (congrArg some (by kernel_rfl))
 f169:=Tryz.func250.trans (congrArg some (by kernel_rfl))
 f240:=Tryz.func281.trans (congrArg some (by kernel_rfl))
 f241:=Tryz.func282.trans (congrArg some (by kernel_rfl))
 f276:=Tryz.func306.trans (congrArg some (by kernel_rfl))
 f277:=Tryz.func307.trans (congrArg some (by kernel_rfl))
 t0:=Tryz.underlying0
 a0:=Tryz.isAgg0
 z0:=Tryz.sizeOf0
 v0:=Tryz.zeroValue0
 t3:=Tryz.underlying3
 a3:=Tryz.isAgg3
 z3:=Tryz.sizeOf3
 v3:=Tryz.zeroValue3
 t4:=Tryz.underlying4
 a4:=Tryz.isAgg4
 z4:=Tryz.sizeOf4
 v4:=Tryz.zeroValue4
 t9:=Tryz.underlying9
 a9:=Tryz.isAgg9
 z9:=Tryz.sizeOf9
 v9:=Tryz.zeroValue9
 t20:=Tryz.underlying20
 a20:=Tryz.isAgg20
 z20:=Tryz.sizeOf20
 v20:=Tryz.zeroValue20
 t31:=Tryz.underlying47
 a31:=Tryz.isAgg47
 z31:=Tryz.sizeOf47
 v31:=Tryz.zeroValue47
 t37:=Tryz.underlying222
 a37:=Tryz.isAgg222
 z37:=Tryz.sizeOf222
 v37:=Tryz.zeroValue222
 t70:=Tryz.underlying221
 a70:=Tryz.isAgg221
 z70:=Tryz.sizeOf221
 v70:=Tryz.zeroValue221
 t72:=Tryz.underlying224
 a72:=Tryz.isAgg224
 z72:=Tryz.sizeOf224
 v72:=Tryz.zeroValue224
 t75:=Tryz.underlying194
 a75:=Tryz.isAgg194
 z75:=Tryz.sizeOf194
 v75:=Tryz.zeroValue194
 t76:=Tryz.underlying195
 a76:=Tryz.isAgg195
 z76:=Tryz.sizeOf195
 v76:=Tryz.zeroValue195
 t127:=Tryz.underlying246
 a127:=Tryz.isAgg246
 z127:=Tryz.sizeOf246
 v127:=Tryz.zeroValue246
 t164:=Tryz.underlying263
 a164:=Tryz.isAgg263
 z164:=Tryz.sizeOf263
 v164:=Tryz.zeroValue263}
theorem Tryz.Builder_Extra_156:Builder.Extra Tryz.prog Tryz.lays156_ren:={
 sizeBuilder:=by kernel_rfl
 liesBuilder:=by kernel_rfl
 t5:=Tryz.underlying5
 a5:=Tryz.isAgg5
 z5:=Tryz.sizeOf5
 v5:=Tryz.zeroValue5
 infoByte:=by kernel_rfl
 cellsByte:=by kernel_rfl
 sizeByte:=by kernel_rfl
 neB5:=by decide}
theorem Tryz.strings_Join_none (a : Option Addr) (c : Nat) (sep : ByteArray) (w : World) :
  Calls Tryz.prog 203 #[.slice a 0 c,.string sep] w fun e w'=>e= .returned (.string ⟨#[]⟩)∧w'=w:=Any.strings_Join_none Tryz.lays156 Tryz.Builder_Extra_156 a c sep w
theorem Tryz.strings_Join (bk o c : Nat) (xs : List ByteArray) (sep : ByteArray) (w : World) (hcells : ∀ (j : Nat) x, xs[j]? = some x → w.cell? ⟨bk, o + j, none⟩ = some (.string x)) (hbk : bk < w.heap.size) (hN : xs.length ≤ 140737488355328) (hcap : xs.length ≤ c) (hlen : (Lib.join (xs.map (·.data.toList)) sep.data.toList).length ≤ 140737488355328) :
  Calls Tryz.prog 203 #[.slice (some ⟨bk,o,none⟩) xs.length c,.string sep] w fun e w'=>e= .returned (.string ⟨(Lib.join (xs.map (·.data.toList)) sep.data.toList).toArray⟩)∧Below w.heap.size w w':=Any.strings_Join Tryz.lays156 Tryz.Builder_Extra_156 bk o c xs sep w hcells hbk hN hcap hlen
def Tryz.lays129_ren:Go.Shelf.Ren:=⟨fun | 129=>302 | n=>n,fun | 53=>241 | 3=>3 | 4=>4 | 46=>228 | 5=>5 | 9=>9 | n=>n,fun | n=>n⟩
theorem Tryz.lays129:Go.Proofs.Lays.n129 Tryz.prog Tryz.lays129_ren:={
 mixed:=by kernel_rfl
 f129:=Tryz.func302.trans (congrArg some (by kernel_rfl))
 t3:=Tryz.underlying3
 a3:=Tryz.isAgg3
 z3:=Tryz.sizeOf3
 v3:=Tryz.zeroValue3
 t4:=Tryz.underlying4
 a4:=Tryz.isAgg4
 z4:=Tryz.sizeOf4
 v4:=Tryz.zeroValue4
 t5:=Tryz.underlying5
 a5:=Tryz.isAgg5
 z5:=Tryz.sizeOf5
 v5:=Tryz.zeroValue5
 t9:=Tryz.underlying9
 a9:=Tryz.isAgg9
 z9:=Tryz.sizeOf9
 v9:=Tryz.zeroValue9
 t46:=Tryz.underlying228
 a46:=Tryz.isAgg228
 z46:=Tryz.sizeOf228
 v46:=Tryz.zeroValue228
 t53:=Tryz.underlying241
 a53:=Tryz.isAgg241
 z53:=Tryz.sizeOf241
 v53:=Tryz.zeroValue241}
theorem Tryz.bits_Len64 (x : Int) (w : World) (h0 : 0 ≤ x) (h1 : x ≤ 18446744073709551615) :
  Calls Tryz.prog 302 #[.int .u64 x] w fun e w'=>e= .returned (.int .i64 (Lib.bitLen x.toNat))∧w'=w:=Any.bits_Len64 Tryz.lays129 x w h0 h1
def Tryz.lays317_ren:Go.Shelf.Ren:=⟨fun | 317=>301 | n=>n,fun | 3=>3 | 46=>228 | n=>n,fun | n=>n⟩
theorem Tryz.lays317:Go.Proofs.Lays.n317 Tryz.prog Tryz.lays317_ren:={
 mixed:=by kernel_rfl
 f317:=Tryz.func301.trans (congrArg some (by kernel_rfl))
 t3:=Tryz.underlying3
 a3:=Tryz.isAgg3
 z3:=Tryz.sizeOf3
 v3:=Tryz.zeroValue3
 t46:=Tryz.underlying228
 a46:=Tryz.isAgg228
 z46:=Tryz.sizeOf228
 v46:=Tryz.zeroValue228}
theorem Tryz.internal_strconv_log10Pow2 (x : Nat) (h : x ≤ 64) (w : World) :
  Calls Tryz.prog 301 #[.int .i64 x] w fun e w'=>e= .returned (.int .i64 (Lib.l10 x))∧w'=w:=Any.internal_strconv_log10Pow2 Tryz.lays317 x h w
def Tryz.lays318_ren:Go.Shelf.Ren:=⟨fun | 318=>303 | n=>n,fun | 3=>3 | 4=>4 | n=>n,fun | n=>n⟩
theorem Tryz.lays318:Go.Proofs.Lays.n318 Tryz.prog Tryz.lays318_ren:={
 mixed:=by kernel_rfl
 f318:=Tryz.func303.trans (congrArg some (by kernel_rfl))
 t3:=Tryz.underlying3
 a3:=Tryz.isAgg3
 z3:=Tryz.sizeOf3
 v3:=Tryz.zeroValue3
 t4:=Tryz.underlying4
 a4:=Tryz.isAgg4
 z4:=Tryz.sizeOf4
 v4:=Tryz.zeroValue4}
theorem Tryz.internal_strconv_bool2_int (b : Bool) (w : World) :
  Calls Tryz.prog 303 #[.bool b] w fun e w'=>e= .returned (.int .i64 (if b then 1 else 0))∧w'=w:=Any.internal_strconv_bool2_int Tryz.lays318 b w
def Tryz.lays283_ren:Go.Shelf.Ren:=⟨fun | 283=>277 | n=>n,fun | 3=>3 | 9=>9 | 4=>4 | n=>n,fun | n=>n⟩
theorem Tryz.lays283:Go.Proofs.Lays.n283 Tryz.prog Tryz.lays283_ren:={
 mixed:=by kernel_rfl
 f283:=Tryz.func277.trans (congrArg some (by kernel_rfl))
 t3:=Tryz.underlying3
 a3:=Tryz.isAgg3
 z3:=Tryz.sizeOf3
 v3:=Tryz.zeroValue3
 t4:=Tryz.underlying4
 a4:=Tryz.isAgg4
 z4:=Tryz.sizeOf4
 v4:=Tryz.zeroValue4
 t9:=Tryz.underlying9
 a9:=Tryz.isAgg9
 z9:=Tryz.sizeOf9
 v9:=Tryz.zeroValue9}
theorem Tryz.internal_strconv_small (i : Nat) (h : i < 100) (w : World) :
  Calls Tryz.prog 277 #[.int .i64 i] w fun e w'=>e= .returned (.string ⟨(Lib.decDigits i).toArray⟩)∧w'=w:=Any.internal_strconv_small Tryz.lays283 i h w
def Tryz.lays285_ren:Go.Shelf.Ren:=⟨fun | 285=>279 | n=>n,fun | 37=>222 | 53=>241 | 3=>3 | 4=>4 | 51=>257 | 9=>9 | 5=>5 | 0=>0 | n=>n,fun | n=>n⟩
theorem Tryz.lays285:Go.Proofs.Lays.n285 Tryz.prog Tryz.lays285_ren:={
 mixed:=by kernel_rfl
 f285:=Tryz.func279.trans (congrArg some (by kernel_rfl))
 t0:=Tryz.underlying0
 a0:=Tryz.isAgg0
 z0:=Tryz.sizeOf0
 v0:=Tryz.zeroValue0
 t3:=Tryz.underlying3
 a3:=Tryz.isAgg3
 z3:=Tryz.sizeOf3
 v3:=Tryz.zeroValue3
 t4:=Tryz.underlying4
 a4:=Tryz.isAgg4
 z4:=Tryz.sizeOf4
 v4:=Tryz.zeroValue4
 t5:=Tryz.underlying5
 a5:=Tryz.isAgg5
 z5:=Tryz.sizeOf5
 v5:=Tryz.zeroValue5
 t9:=Tryz.underlying9
 a9:=Tryz.isAgg9
 z9:=Tryz.sizeOf9
 v9:=Tryz.zeroValue9
 t37:=Tryz.underlying222
 a37:=Tryz.isAgg222
 z37:=Tryz.sizeOf222
 v37:=Tryz.zeroValue222
 t51:=Tryz.underlying257
 a51:=Tryz.isAgg257
 z51:=Tryz.sizeOf257
 v51:=Tryz.zeroValue257
 t53:=Tryz.underlying241
 a53:=Tryz.isAgg241
 z53:=Tryz.sizeOf241
 v53:=Tryz.zeroValue241}
theorem Tryz.internal_strconv_formatBase10 (blk off cap : Nat) (u : Nat) (d : Array UInt8) (w : World) (hH : Holds (fun (b : UInt8) => Value.int .u8 (b.toNat : Int)) w blk off d) (hu : u < 10 ^ d.size) (hu64 : u < 18446744073709551616) (hsz : d.size < 4611686018427387904) :
  Calls Tryz.prog 279 #[.slice (some ⟨blk,off,none⟩) d.size cap,.int .u64 u] w fun e w'=>
   e= .returned (.tuple #[])∧∃ (n v':Nat) (dk:Array UInt8),w'=(putRow (fun (b:UInt8)=>Value.int .u8 (b.toNat:Int)) w blk off dk).drewN n∧FmtInv d.size u 0 v' dk:=Any.internal_strconv_formatBase10 Tryz.lays285 blk off cap u d w hH hu hu64 hsz
def Tryz.laysC172_ren:Go.Shelf.Ren:=⟨fun | 172=>204 | 244=>251 | 245=>252 | 247=>283 | 279=>284 | 280=>285 | 281=>286 | 282=>287 | 287=>308 | 316=>309 | 171=>130 | 205=>310 | 321=>325 | 322=>326 | 243=>201 | 246=>247 | 283=>277 | 284=>278 | 285=>279 | 286=>280 | 129=>302 | 317=>301 | 318=>303 | 319=>304 | 320=>305 | 337=>323 | 338=>324 | n=>n,fun | 9=>9 | 3=>3 | 75=>194 | 76=>195 | 4=>4 | 5=>5 | 167=>247 | 37=>222 | 0=>0 | 85=>248 | 2=>2 | 168=>250 | 53=>241 | 175=>266 | 46=>228 | 210=>269 | 127=>246 | 145=>288 | 143=>286 | 21=>21 | 171=>240 | 173=>244 | 212=>261 | 51=>257 | 20=>20 | 213=>262 | 232=>294 | 233=>295 | 80=>226 | n=>n,fun | 15=>2 | 16=>3 | 17=>1 | 18=>6 | 19=>7 | n=>n⟩
theorem Tryz.laysC172:Go.Proofs.LaysC.n172 Tryz.prog Tryz.laysC172_ren:={
 mixed:=by kernel_rfl
 f129:=Tryz.func302.trans (congrArg some (by kernel_rfl))
 f171:=Tryz.func130.trans (congrArg some (by kernel_rfl))
 f172:=Tryz.func204.trans (congrArg some (by kernel_rfl))
 f205:=Tryz.func310.trans (congrArg some (by kernel_rfl))
 f243:=Tryz.func201.trans (congrArg some (by kernel_rfl))
 f244:=Tryz.func251.trans (congrArg some (by kernel_rfl))
 f245:=Tryz.func252.trans (congrArg some (by kernel_rfl))
 f246:=Tryz.func247.trans (congrArg some (by kernel_rfl))
 f247:=Tryz.func283.trans (congrArg some (by kernel_rfl))
 f279:=Tryz.func284.trans (congrArg some (by kernel_rfl))
 f280:=Tryz.func285.trans (congrArg some (by kernel_rfl))
 f281:=Tryz.func286.trans (congrArg some (by kernel_rfl))
 f282:=Tryz.func287.trans (congrArg some (by kernel_rfl))
 f283:=Tryz.func277.trans (congrArg some (by kernel_rfl))
 f284:=Tryz.func278.trans (congrArg some (by kernel_rfl))
 f285:=Tryz.func279.trans (congrArg some (by kernel_rfl))
 f286:=Tryz.func280.trans (congrArg some (by kernel_rfl))
 f287:=Tryz.func308.trans (congrArg some (by kernel_rfl))
 f316:=Tryz.func309.trans (congrArg some (by kernel_rfl))
 f317:=Tryz.func301.trans (congrArg some (by kernel_rfl))
 f318:=Tryz.func303.trans (congrArg some (by kernel_rfl))
 f319:=Tryz.func304.trans (congrArg some (by kernel_rfl))
 f320:=Tryz.func305.trans (congrArg some (by kernel_rfl))
 f321:=Tryz.func325.trans (congrArg some (by kernel_rfl))
 f322:=Tryz.func326.trans (congrArg some (by kernel_rfl))
 f337:=Tryz.func323.trans (congrArg some (by kernel_rfl))
 f338:=Tryz.func324.trans (congrArg some (by kernel_rfl))
 t0:=Tryz.underlying0
 a0:=Tryz.isAgg0
 z0:=Tryz.sizeOf0
 v0:=Tryz.zeroValue0
 t2:=Tryz.underlying2
 a2:=Tryz.isAgg2
 z2:=Tryz.sizeOf2
 v2:=Tryz.zeroValue2
 t3:=Tryz.underlying3
 a3:=Tryz.isAgg3
 z3:=Tryz.sizeOf3
 v3:=Tryz.zeroValue3
 t4:=Tryz.underlying4
 a4:=Tryz.isAgg4
 z4:=Tryz.sizeOf4
 v4:=Tryz.zeroValue4
 t5:=Tryz.underlying5
 a5:=Tryz.isAgg5
 z5:=Tryz.sizeOf5
 v5:=Tryz.zeroValue5
 t9:=Tryz.underlying9
 a9:=Tryz.isAgg9
 z9:=Tryz.sizeOf9
 v9:=Tryz.zeroValue9
 t20:=Tryz.underlying20
 a20:=Tryz.isAgg20
 z20:=Tryz.sizeOf20
 v20:=Tryz.zeroValue20
 t21:=Tryz.underlying21
 a21:=Tryz.isAgg21
 z21:=Tryz.sizeOf21
 v21:=Tryz.zeroValue21
 t37:=Tryz.underlying222
 a37:=Tryz.isAgg222
 z37:=Tryz.sizeOf222
 v37:=Tryz.zeroValue222
 t46:=Tryz.underlying228
 a46:=Tryz.isAgg228
 z46:=Tryz.sizeOf228
 v46:=Tryz.zeroValue228
 t51:=Tryz.underlying257
 a51:=Tryz.isAgg257
 z51:=Tryz.sizeOf257
 v51:=Tryz.zeroValue257
 t53:=Tryz.underlying241
 a53:=Tryz.isAgg241
 z53:=Tryz.sizeOf241
 v53:=Tryz.zeroValue241
 t75:=Tryz.underlying194
 a75:=Tryz.isAgg194
 z75:=Tryz.sizeOf194
 v75:=Tryz.zeroValue194
 t76:=Tryz.underlying195
 a76:=Tryz.isAgg195
 z76:=Tryz.sizeOf195
 v76:=Tryz.zeroValue195
 t85:=Tryz.underlying248
 a85:=Tryz.isAgg248
 z85:=Tryz.sizeOf248
 v85:=Tryz.zeroValue248
 t127:=Tryz.underlying246
 a127:=Tryz.isAgg246
 z127:=Tryz.sizeOf246
 v127:=Tryz.zeroValue246
 t143:=Tryz.underlying286
 a143:=Tryz.isAgg286
 z143:=Tryz.sizeOf286
 v143:=Tryz.zeroValue286
 t145:=Tryz.underlying288
 a145:=Tryz.isAgg288
 z145:=Tryz.sizeOf288
 v145:=Tryz.zeroValue288
 t167:=Tryz.underlying247
 a167:=Tryz.isAgg247
 z167:=Tryz.sizeOf247
 v167:=Tryz.zeroValue247
 t168:=Tryz.underlying250
 a168:=Tryz.isAgg250
 z168:=Tryz.sizeOf250
 v168:=Tryz.zeroValue250
 t171:=Tryz.underlying240
 a171:=Tryz.isAgg240
 z171:=Tryz.sizeOf240
 v171:=Tryz.zeroValue240
 t173:=Tryz.underlying244
 a173:=Tryz.isAgg244
 z173:=Tryz.sizeOf244
 v173:=Tryz.zeroValue244
 t175:=Tryz.underlying266
 a175:=Tryz.isAgg266
 z175:=Tryz.sizeOf266
 v175:=Tryz.zeroValue266
 t210:=Tryz.underlying269
 a210:=Tryz.isAgg269
 z210:=Tryz.sizeOf269
 v210:=Tryz.zeroValue269
 t212:=Tryz.underlying261
 a212:=Tryz.isAgg261
 z212:=Tryz.sizeOf261
 v212:=Tryz.zeroValue261
 t213:=Tryz.underlying262
 a213:=Tryz.isAgg262
 z213:=Tryz.sizeOf262
 t232:=Tryz.underlying294
 a232:=Tryz.isAgg294
 z232:=Tryz.sizeOf294
 v232:=Tryz.zeroValue294
 t233:=Tryz.underlying295
 a233:=Tryz.isAgg295
 z233:=Tryz.sizeOf295
 v233:=Tryz.zeroValue295
 g15:=by kernel_rfl
 g16:=by kernel_rfl
 g17:=by kernel_rfl
 g18:=by kernel_rfl
 g19:=by kernel_rfl
 t80:=Tryz.underlying226
 a80:=Tryz.isAgg226
 z80:=Tryz.sizeOf226
 v80:=Tryz.zeroValue226
 i0:=by kernel_rfl
 i2:=by kernel_rfl
 i3:=by kernel_rfl
 i4:=by kernel_rfl
 i5:=by kernel_rfl
 i9:=by kernel_rfl
 i20:=by kernel_rfl
 i21:=by kernel_rfl
 i37:=by kernel_rfl
 i46:=by kernel_rfl
 i51:=by kernel_rfl
 i53:=by kernel_rfl
 i75:=by kernel_rfl
 i76:=by kernel_rfl
 i80:=by kernel_rfl
 i85:=by kernel_rfl
 i127:=by kernel_rfl
 i143:=by kernel_rfl
 i145:=by kernel_rfl
 i167:=by kernel_rfl
 i168:=by kernel_rfl
 i171:=by kernel_rfl
 i173:=by kernel_rfl
 i175:=by kernel_rfl
 i210:=by kernel_rfl
 i212:=by kernel_rfl
 i232:=by kernel_rfl
 i233:=by kernel_rfl
 m15:=by kernel_rfl
 m16:=by kernel_rfl
 m17:=by kernel_rfl
 m18:=by kernel_rfl
 m19:=by kernel_rfl
 c0:=by kernel_rfl
 c2:=by kernel_rfl
 c3:=by kernel_rfl
 c4:=by kernel_rfl
 c5:=by kernel_rfl
 c9:=by kernel_rfl
 c20:=by kernel_rfl
 c21:=by kernel_rfl
 c37:=by kernel_rfl
 c46:=by kernel_rfl
 c51:=by kernel_rfl
 c53:=by kernel_rfl
 c75:=by kernel_rfl
 c76:=by kernel_rfl
 c80:=by kernel_rfl
 c85:=by kernel_rfl
 c127:=by kernel_rfl
 c143:=by kernel_rfl
 c145:=by kernel_rfl
 c167:=by kernel_rfl
 c168:=by kernel_rfl
 c171:=by kernel_rfl
 c173:=by kernel_rfl
 c175:=by kernel_rfl
 c210:=by kernel_rfl
 c212:=by kernel_rfl
 c213:=by kernel_rfl
 c232:=by kernel_rfl
 c233:=by kernel_rfl}
theorem Tryz.strconv_Atoi_ok (s : ByteArray) (hmax : s.size ≤ 9223372036854775806) (v : Int) (h : Lib.atoiAll s.data.toList = .ok v) (w : World) :
  Calls Tryz.prog 204 #[.string s] w fun e w'=>e= .returned (.tuple #[.int .i64 v,.nilIface])∧(w'=w∨∃ t,w'=Lib.bytesWorld w 5 t):=Any.strconv_Atoi_ok Tryz.laysC172 s hmax v h w
theorem Tryz.strconv_Atoi_syntax (s : ByteArray) (hlim : s.size ≤ 281474976710656) (hok : ∀ v, Lib.atoiAll s.data.toList ≠ .ok v) (hr : Lib.atoiAll s.data.toList ≠ .range) (ev : Value) (w : World) (hv : w.cell? ⟨2, 0, none⟩ = some ev) (hev : ev = .nilIface ∨ ∃ te pe, ev = .iface te pe) :
  Calls Tryz.prog 204 #[.string s] w fun e w'=>∃ N,e= .returned (.tuple #[.int .i64 (0),.iface 250 (.pointer (some ⟨N,0,none⟩))])∧w.heap.size≤N∧w'.heap[N]? = some (.cells #[.string ⟨#[65,116,111,105]⟩,.string s,ev] 269 (0,0))∧Below w.heap.size w w':=by
 cases h:Lib.atoiAll s.data.toList
 · exact (hok _ h).elim
 · exact Any.strconv_Atoi_syntax Tryz.laysC172 s hlim h ev w hv hev
 · exact (hr h).elim
theorem Tryz.strconv_Atoi_range (s : ByteArray) (hlim : s.size ≤ 281474976710656) (h : Lib.atoiAll s.data.toList = .range) (ev : Value) (w : World) (hv : w.cell? ⟨3, 0, none⟩ = some ev) (hev : ev = .nilIface ∨ ∃ te pe, ev = .iface te pe) :
  Calls Tryz.prog 204 #[.string s] w fun e w'=>∃ N,e= .returned (.tuple #[.int .i64 (Lib.atoiSat s.data.toList),.iface 250 (.pointer (some ⟨N,0,none⟩))])∧w.heap.size≤N∧w'.heap[N]? = some (.cells #[.string ⟨#[65,116,111,105]⟩,.string s,ev] 269 (0,0))∧Below w.heap.size w w':=Any.strconv_Atoi_range Tryz.laysC172 s hlim h ev w hv hev
def Tryz.lays101_ren:Go.Shelf.Ren:=⟨fun | 101=>205 | 208=>253 | 206=>288 | n=>n,fun | 9=>9 | 4=>4 | 3=>3 | n=>n,fun | n=>n⟩
theorem Tryz.lays101:Go.Proofs.Lays.n101 Tryz.prog Tryz.lays101_ren:={
 mixed:=by kernel_rfl
 f101:=Tryz.func205.trans (congrArg some (by kernel_rfl))
 f206:=Tryz.func288.trans (congrArg some (by kernel_rfl))
 f208:=Tryz.func253.trans (congrArg some (by kernel_rfl))
 t3:=Tryz.underlying3
 a3:=Tryz.isAgg3
 z3:=Tryz.sizeOf3
 v3:=Tryz.zeroValue3
 t4:=Tryz.underlying4
 a4:=Tryz.isAgg4
 z4:=Tryz.sizeOf4
 v4:=Tryz.zeroValue4
 t9:=Tryz.underlying9
 a9:=Tryz.isAgg9
 z9:=Tryz.sizeOf9
 v9:=Tryz.zeroValue9}
theorem Tryz.strings_TrimPrefix (s p : ByteArray) (w : World) :
  Calls Tryz.prog 205 #[.string s,.string p] w fun e w'=>e= .returned (.string ⟨(Lib.trimPrefix s.data.toList p.data.toList).toArray⟩)∧w'=w:=Any.strings_TrimPrefix Tryz.lays101 s p w
end Go.Proofs
