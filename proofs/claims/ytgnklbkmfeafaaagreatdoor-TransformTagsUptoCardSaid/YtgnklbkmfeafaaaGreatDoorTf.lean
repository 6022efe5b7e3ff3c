/-
  Classes of bytes, literals, numbers: the reference's text.
-/
import Derived.Test.YtgnklbkmfeafaaaGreatDoorTa
set_option maxHeartbeats 0
set_option maxRecDepth 100000
namespace Go.Vm
def symsB:Zg:=[40,41,123,125,91,93,44,59,58,61,46,45,62,60,63,124,38,42]
def Xv (c:Int):Int:=if c=32∨c=9∨c=10∨c=13 then 1 else if XX c=true then 2 else if Uz c=true then 3 else if c=34 then 5 else if symsB.any (fun x=>decide ((x.toNat:Int)=c))=true then 4 else 0
theorem ZiT (x:Int):∃ c:UInt8,IntKind.u8.wrap x=(c.toNat:Int):=by
 refine ⟨UInt8.ofNat (IntKind.u8.wrap x).toNat,?_⟩
 rw [IntKind.wrap_u8]
 simp only [UInt8.toNat_ofNat']
 omega
def Zca (l:Zg):List (List PV):=l.map fun c=>[.int .u8 (c.toNat:Int)]
theorem Zfq (a b:Zg):Zca (a++b)=Zca a++Zca b:=by simp [Zca]
theorem Zen (l:Zg):(Zca l).all (fun c=>c.all Zp)=true:=by
 rw [Zca,List.all_map,List.all_eq_true]
 intro x _
 rfl
theorem ZbX:∀ l:Zg,VH (Zca l)=some l
 | []=>rfl
 | c :: r => by
   have hc:c.toNat<256:=c.toNat_lt
   have h1:(decide ((0:Int)≤(c.toNat:Int))&&decide ((c.toNat:Int)≤255))=true:=by simp;omega
   simp only [Zca,List.map_cons,VH]
   rw [h1]
   have:=ZbX r
   unfold Zca at this
   rw [this]
   simp
def ByV (l:Zg) (v:PV) (lv:List Nat) (nt:Nat):Prop:=(l= []∧v= .nils∧lv= []∧nt=0)∨(l≠ []∧∃ k,v= .sl (.tok k) 1 (Zca l)∧lv= [k]∧nt=k+1)
theorem ByV.under {l:Zg} {v:PV} {lv:List Nat} {nt:Nat} (h:ByV l v lv nt) (n:Nat):under n v=true:=by
 rcases h with ⟨_,rfl,_⟩|⟨_,k,rfl,_⟩<;>rfl
end Go.Vm
namespace Go.Vm.Seat
variable {l:Zg} {v:PV} {lv:List Nat} {nt:Nat} {c:Int}
open Go.Proofs
theorem ZH {n m by_:Nat} (h:n+m≤10000000) (hb:by_≤1000000):XH n m by_=true:=by
 simp only [XH,Bool.and_eq_true,Nat.ble_eq]
 have:=Nat.mul_le_mul (show n+m+256≤10000256 by omega) hb
 omega
theorem ZfR:ApT E0 158 158 1 1:=⟨_,_,_,_,_,rfl,rfl,rfl,rfl,rfl,rfl,rfl,by decide,rfl⟩
theorem Zhc (h:ByV l v lv nt) (hl:l.length≤100000) (c:UInt8):∃ v' lv' nt',ZL E0 158 158 v (.sl .full 1 [[.int .u8 (c.toNat:Int)]]) ⟨[],0,lv,nt⟩=some (v',⟨[],0,lv',nt'⟩)∧ByV (l++ [c]) v' lv' nt':=by
 have hz:ElV 1 (.sl .full 1 [[.int .u8 (c.toNat:Int)]]) (Zca [c]):= .sl _ _ _
 have hT:Zae E0 158=5:=by kernel_rfl
 rcases h with ⟨rfl,rfl,rfl,rfl⟩|⟨hn,k,rfl,rfl,rfl⟩
 · refine ⟨_, _, _, ?_, .inr ⟨by simp, 0, rfl, rfl, rfl⟩⟩
   simp only [ZL,Z2 ZfR hz (Zen _) (s:= .nils) rfl rfl]
   simp only [Zca,List.map_cons,List.map_nil,Xi,hT,V4,List.nil_append]
   rfl
 · refine ⟨_, _, _, ?_, .inr ⟨by simp, k + 1, rfl, rfl, rfl⟩⟩
   simp only [ZL,Z2 ZfR hz (Zen _) (s:= .sl (.tok k) 1 (Zca l)) rfl rfl]
   obtain ⟨a,r,rfl⟩:=List.exists_cons_of_ne_nil hn
   rw [Zfq]
   simp only [Zca,List.map_cons,List.map_nil,hT,V4]
   rw [if_pos (by rw [ZH (by simp only [List.length_nil,List.length_cons,List.length_map] at hl ⊢;omega) (by decide)];rfl)]
   simp [Xp]
theorem Zim (h:ByV l v lv nt):Zan E0 158 9 v=some (.str l):=by
 rcases h with ⟨rfl,rfl,rfl,rfl⟩|⟨hn,k,rfl,rfl,rfl⟩
 · rfl
 · have e1 : E0.T 158 = some ⟨.slice 5, 1, 24, .nils⟩ := rfl
   have e2:E0.T 5=some ⟨.int .u8,1,1,.int .u8 0⟩:=rfl
   simp only [Zan,e1,eTs,e2,ZbX]
   rfl
theorem ZiW (x:Int):Zan E0 3 5 (.int .i64 x)=some (.int .u8 (IntKind.u8.wrap x)):=rfl
theorem Zkv (s:Zg) (hs:s.length≤65536):∃ (c:UInt8) (n:Nat),n≤s.length∧∀ H,CallOk E0 Tryz.prog 144 [.str s] H (.tup [.int .u8 (c.toNat:Int),.int .i64 (n:Int)]) H:=by
 have key:∃ r H1,CallOk E0 Tryz.prog 144 [.str s] hNil r H1∧H1=hNil∧∃ (c:UInt8) (n:Nat),n≤s.length∧r= .tup [.int .u8 (c.toNat:Int),.int .i64 (n:Int)]:=by
  refine YS (own:=fun _=>false) tOk fe144.ok ?_
  refine Wp.seq ?_
  have z0:=Z6 (s.length:Int) 0
  by_cases zz:s.length=0
  · rw [decide_eq_true (by omega)] at z0
    repeat' first|refine Jk ?_|refine JX ?_|refine Ji ?_|(apply qCv;rfl;rfl;rfl;assumption;exact IsV.any _)|refine Jl ?_|refine Jt ?_|refine Jb ?_ ?_|refine Jo ?_|(apply dK;rfl;rfl;rfl)|(apply dXi;rfl;rfl;rfl;rfl;assumption;exact IsV.any _;rfl)|refine JD ?_|(apply dCv;rfl;rfl;rfl;assumption;exact IsV.any _;rfl)|(apply dLn;rfl;rfl;rfl;rfl;rfl)|(apply dT (ty:=4);rfl;rfl;rfl;rfl)|(apply dF (ty:=4);rfl;rfl;rfl;rfl)|(apply dB (ty:=4);rfl;rfl;rfl;rfl)|refine Jh ?_|(apply Wp.draw tOk follows;kernel_rfl)|intro hb
    exact RetR.ret rfl ⟨rfl,0,0,by omega,rfl⟩
  rw [decide_eq_false (by omega)] at z0
  obtain ⟨d,hd⟩:∃ d,s[0]? = some d:=⟨s[0],by simp⟩
  have hj0:=Vi hd
  repeat' first|refine Jk ?_|refine JX ?_|refine Ji ?_|(apply qCv;rfl;rfl;rfl;assumption;exact IsV.any _)|refine Jl ?_|refine Jt ?_|refine Jb ?_ ?_|refine Jo ?_|(apply dK;rfl;rfl;rfl)|(apply dXi;rfl;rfl;rfl;rfl;assumption;exact IsV.any _;rfl)|refine JD ?_|(apply dCv;rfl;rfl;rfl;assumption;exact IsV.any _;rfl)|(apply dLn;rfl;rfl;rfl;rfl;rfl)|(apply dT (ty:=4);rfl;rfl;rfl;rfl)|(apply dF (ty:=4);rfl;rfl;rfl;rfl)|(apply dB (ty:=4);rfl;rfl;rfl;rfl)|refine Jh ?_|(apply Wp.draw tOk follows;kernel_rfl)|intro hb
  refine Wp.while (fun m tm H=>∃ (i:Nat) (base:TM),i+m=4∧tm=ovr base [(0,.str s),(4,.str [110,10,116,9,34,34,92,92]),(5,.int .i64 ((2*i:Nat):Int))]∧H=⟨[],0,[],0⟩)
   (fun m tm H hI=>Wp.drop ?_) 4 _ _ ⟨0,_,by omega,Zf ⟨rfl,rfl,rfl,trivial⟩,rfl⟩
  obtain ⟨i,base,hi,rfl,rfl⟩:=hI
  have hlx:=Zn ((2*i:Nat):Int) 8
  by_cases hlt:i<4
  · rw [decide_eq_true (by omega)] at hlx
    obtain ⟨x,hx⟩:∃ x,([110,10,116,9,34,34,92,92]:Zg)[2*i]? = some x:=⟨([110,10,116,9,34,34,92,92]:Zg)[2*i]'(by simp;omega),by simp⟩
    obtain ⟨y,hy⟩:∃ y,([110,10,116,9,34,34,92,92]:Zg)[2*i+1]? = some y:=⟨([110,10,116,9,34,34,92,92]:Zg)[2*i+1]'(by simp;omega),by simp⟩
    have hjx:=Vi hx
    have hjy:=Vi hy
    have w1:=Zy (a:=((2*i:Nat):Int)) (b:=1) (by omega) (by omega)
    rw [show ((2*i:Nat):Int)+1=((2*i+1:Nat):Int) by omega] at w1
    have w2:=Zy (a:=((2*i:Nat):Int)) (b:=2) (by omega) (by omega)
    rw [show ((2*i:Nat):Int)+2=((2*(i+1):Nat):Int) by omega] at w2
    have hq:=X6 (d.toNat:Int) (x.toNat:Int)
    generalize decide ((d.toNat:Int)=(x.toNat:Int))=B at hq
    cases B with
    | true =>
      repeat' first|refine Jk ?_|refine JX ?_|refine Ji ?_|(apply qCv;rfl;rfl;rfl;assumption;exact IsV.any _)|refine Jl ?_|refine Jt ?_|refine Jb ?_ ?_|refine Jo ?_|(apply dK;rfl;rfl;rfl)|(apply dXi;rfl;rfl;rfl;rfl;assumption;exact IsV.any _;rfl)|refine JD ?_|(apply dCv;rfl;rfl;rfl;assumption;exact IsV.any _;rfl)|(apply dLn;rfl;rfl;rfl;rfl;rfl)|(apply dT (ty:=4);rfl;rfl;rfl;rfl)|(apply dF (ty:=4);rfl;rfl;rfl;rfl)|(apply dB (ty:=4);rfl;rfl;rfl;rfl)|refine Jh ?_|(apply Wp.draw tOk follows;kernel_rfl)|intro hb
      exact RetR.ret rfl ⟨rfl,y,1,by omega,rfl⟩
    | false =>
      repeat' first|refine Jk ?_|refine JX ?_|refine Ji ?_|(apply qCv;rfl;rfl;rfl;assumption;exact IsV.any _)|refine Jl ?_|refine Jt ?_|refine Jb ?_ ?_|refine Jo ?_|(apply dK;rfl;rfl;rfl)|(apply dXi;rfl;rfl;rfl;rfl;assumption;exact IsV.any _;rfl)|refine JD ?_|(apply dCv;rfl;rfl;rfl;assumption;exact IsV.any _;rfl)|(apply dLn;rfl;rfl;rfl;rfl;rfl)|(apply dT (ty:=4);rfl;rfl;rfl;rfl)|(apply dF (ty:=4);rfl;rfl;rfl;rfl)|(apply dB (ty:=4);rfl;rfl;rfl;rfl)|refine Jh ?_|(apply Wp.draw tOk follows;kernel_rfl)|intro hb
      refine DropQ.go [(0,.str s),(4,.str [110,10,116,9,34,34,92,92]),(5,.int .i64 ((2*(i+1):Nat):Int))] ⟨rfl,rfl,rfl,trivial⟩ rfl rfl rfl ?_
      exact LoopI.go (m-1) (by omega) ⟨i+1,_,by omega,rfl,rfl⟩
  · have e : i = 4 := by omega
    subst e
    rw [decide_eq_false (by omega)] at hlx
    have h120:WL E0 .neq 5 (.int .u8 (d.toNat:Int)) (.int .u8 120)=some (.bool (!decide ((d.toNat:Int)=120))):=Ue _ _
    have hl3:=Zn (s.length:Int) 3
    clear hi
    by_cases c1:(d.toNat:Int)=120
    case neg=>
     rw [decide_eq_false c1] at h120
     repeat' first|refine Jk ?_|refine JX ?_|refine Ji ?_|(apply qCv;rfl;rfl;rfl;assumption;exact IsV.any _)|refine Jl ?_|refine Jt ?_|refine Jb ?_ ?_|refine Jo ?_|(apply dK;rfl;rfl;rfl)|(apply dXi;rfl;rfl;rfl;rfl;assumption;exact IsV.any _;rfl)|refine JD ?_|(apply dCv;rfl;rfl;rfl;assumption;exact IsV.any _;rfl)|(apply dLn;rfl;rfl;rfl;rfl;rfl)|(apply dT (ty:=4);rfl;rfl;rfl;rfl)|(apply dF (ty:=4);rfl;rfl;rfl;rfl)|(apply dB (ty:=4);rfl;rfl;rfl;rfl)|refine Jh ?_|(apply Wp.draw tOk follows;kernel_rfl)|intro hb
     exact RetR.ret rfl ⟨rfl,0,0,by omega,rfl⟩
    rw [decide_eq_true c1] at h120
    by_cases c2:s.length<3
    · rw [decide_eq_true (by omega)] at hl3
      repeat' first|refine Jk ?_|refine JX ?_|refine Ji ?_|(apply qCv;rfl;rfl;rfl;assumption;exact IsV.any _)|refine Jl ?_|refine Jt ?_|refine Jb ?_ ?_|refine Jo ?_|(apply dK;rfl;rfl;rfl)|(apply dXi;rfl;rfl;rfl;rfl;assumption;exact IsV.any _;rfl)|refine JD ?_|(apply dCv;rfl;rfl;rfl;assumption;exact IsV.any _;rfl)|(apply dLn;rfl;rfl;rfl;rfl;rfl)|(apply dT (ty:=4);rfl;rfl;rfl;rfl)|(apply dF (ty:=4);rfl;rfl;rfl;rfl)|(apply dB (ty:=4);rfl;rfl;rfl;rfl)|refine Jh ?_|(apply Wp.draw tOk follows;kernel_rfl)|intro hb
      exact RetR.ret rfl ⟨rfl,0,0,by omega,rfl⟩
    rw [decide_eq_false (by omega)] at hl3
    obtain ⟨d1,hd1⟩:∃ d,s[1]? = some d:=⟨s[1],by simp⟩
    obtain ⟨d2,hd2⟩:∃ d,s[2]? = some d:=⟨s[2],by simp⟩
    have hj1:=Vi hd1
    have hj2:=Vi hd2
    repeat' first|refine Jk ?_|refine JX ?_|refine Ji ?_|(apply qCv;rfl;rfl;rfl;assumption;exact IsV.any _)|refine Jl ?_|refine Jt ?_|refine Jb ?_ ?_|refine Jo ?_|(apply dK;rfl;rfl;rfl)|(apply dXi;rfl;rfl;rfl;rfl;assumption;exact IsV.any _;rfl)|refine JD ?_|(apply dCv;rfl;rfl;rfl;assumption;exact IsV.any _;rfl)|(apply dLn;rfl;rfl;rfl;rfl;rfl)|(apply dT (ty:=4);rfl;rfl;rfl;rfl)|(apply dF (ty:=4);rfl;rfl;rfl;rfl)|(apply dB (ty:=4);rfl;rfl;rfl;rfl)|refine Jh ?_|(apply Wp.draw tOk follows;kernel_rfl)|intro hb
    refine Wp.while (fun m tm H=>∃ (i:Nat) (base:TM) (x y:Int),i+m=16∧ -1≤x∧x≤15∧ -1≤y∧y≤15∧tm=ovr base [(0,.str s),(6,.str [48,49,50,51,52,53,54,55,56,57,97,98,99,100,101,102]),(7,.int .i64 x),(8,.int .i64 y),(9,.int .i64 (i:Int))]∧H=⟨[],0,[],0⟩)
     (fun m tm H hI=>Wp.drop ?_) 16 _ _ ⟨0,_, -1, -1,by omega,by omega,by omega,by omega,by omega,Zf ⟨rfl,rfl,rfl,rfl,rfl,trivial⟩,rfl⟩
    obtain ⟨i,base,x,y,hi,hx1,hx2,hy1,hy2,rfl,rfl⟩:=hI
    have hlx:=Zn (i:Int) 16
    by_cases hlt:i<16
    · rw [decide_eq_true (by omega)] at hlx
      obtain ⟨z,hz⟩:∃ z,([48,49,50,51,52,53,54,55,56,57,97,98,99,100,101,102]:Zg)[i]? = some z:=⟨([48,49,50,51,52,53,54,55,56,57,97,98,99,100,101,102]:Zg)[i]'(by simp;omega),by simp⟩
      have hjz:=Vi hz
      have hii:=Zy (a:=(i:Int)) (b:=1) (by omega) (by omega)
      rw [show (i:Int)+1=((i+1:Nat):Int) by omega] at hii
      have hq1:=X6 (d1.toNat:Int) (z.toNat:Int)
      have hq2:=X6 (d2.toNat:Int) (z.toNat:Int)
      generalize decide ((d1.toNat:Int)=(z.toNat:Int))=A at hq1
      generalize decide ((d2.toNat:Int)=(z.toNat:Int))=B at hq2
      have go:∀ x' y':Int,(x'=x∨x'=i)→(y'=y∨y'=i)→(-1≤x'∧x'≤15)∧(-1≤y'∧y'≤15):=by intro x' y' h1 h2;omega
      cases A<;>cases B
      all_goals
       repeat' first|refine Jk ?_|refine JX ?_|refine Ji ?_|(apply qCv;rfl;rfl;rfl;assumption;exact IsV.any _)|refine Jl ?_|refine Jt ?_|refine Jb ?_ ?_|refine Jo ?_|(apply dK;rfl;rfl;rfl)|(apply dXi;rfl;rfl;rfl;rfl;assumption;exact IsV.any _;rfl)|refine JD ?_|(apply dCv;rfl;rfl;rfl;assumption;exact IsV.any _;rfl)|(apply dLn;rfl;rfl;rfl;rfl;rfl)|(apply dT (ty:=4);rfl;rfl;rfl;rfl)|(apply dF (ty:=4);rfl;rfl;rfl;rfl)|(apply dB (ty:=4);rfl;rfl;rfl;rfl)|refine Jh ?_|(apply Wp.draw tOk follows;kernel_rfl)|intro hb
      · refine DropQ.go [(0, .str s), (6, .str [48, 49, 50, 51, 52, 53, 54, 55, 56, 57, 97, 98, 99, 100, 101, 102]), (7, .int .i64 x), (8, .int .i64 y), (9, .int .i64 ((i + 1 : Nat) : Int))] ⟨rfl, rfl, rfl, rfl, rfl, trivial⟩ rfl rfl rfl ?_
        exact LoopI.go (m-1) (by omega) ⟨i+1,_,x,y,by omega,by omega,by omega,by omega,by omega,rfl,rfl⟩
      · refine DropQ.go [(0, .str s), (6, .str [48, 49, 50, 51, 52, 53, 54, 55, 56, 57, 97, 98, 99, 100, 101, 102]), (7, .int .i64 x), (8, .int .i64 (i : Int)), (9, .int .i64 ((i + 1 : Nat) : Int))] ⟨rfl, rfl, rfl, rfl, rfl, trivial⟩ rfl rfl rfl ?_
        exact LoopI.go (m-1) (by omega) ⟨i+1,_,x,i,by omega,by omega,by omega,by omega,by omega,rfl,rfl⟩
      · refine DropQ.go [(0, .str s), (6, .str [48, 49, 50, 51, 52, 53, 54, 55, 56, 57, 97, 98, 99, 100, 101, 102]), (7, .int .i64 (i : Int)), (8, .int .i64 y), (9, .int .i64 ((i + 1 : Nat) : Int))] ⟨rfl, rfl, rfl, rfl, rfl, trivial⟩ rfl rfl rfl ?_
        exact LoopI.go (m-1) (by omega) ⟨i+1,_,i,y,by omega,by omega,by omega,by omega,by omega,rfl,rfl⟩
      · refine DropQ.go [(0, .str s), (6, .str [48, 49, 50, 51, 52, 53, 54, 55, 56, 57, 97, 98, 99, 100, 101, 102]), (7, .int .i64 (i : Int)), (8, .int .i64 (i : Int)), (9, .int .i64 ((i + 1 : Nat) : Int))] ⟨rfl, rfl, rfl, rfl, rfl, trivial⟩ rfl rfl rfl ?_
        exact LoopI.go (m-1) (by omega) ⟨i+1,_,i,i,by omega,by omega,by omega,by omega,by omega,rfl,rfl⟩
    · have e : i = 16 := by omega
      subst e
      rw [decide_eq_false (by omega)] at hlx
      have hx:=Zn x 0
      have hy:=Zn y 0
      have hc:=ZiW (IntKind.i64.wrap (IntKind.i64.wrap (16*x)+y))
      obtain ⟨c,hc'⟩:=ZiT (IntKind.i64.wrap (IntKind.i64.wrap (16*x)+y))
      rw [hc'] at hc
      generalize decide (x<0)=A at hx
      generalize decide (y<0)=B at hy
      cases A<;>cases B
      all_goals
       repeat' first|refine Jk ?_|refine JX ?_|refine Ji ?_|(apply qCv;rfl;rfl;rfl;assumption;exact IsV.any _)|refine Jl ?_|refine Jt ?_|refine Jb ?_ ?_|refine Jo ?_|(apply dK;rfl;rfl;rfl)|(apply dXi;rfl;rfl;rfl;rfl;assumption;exact IsV.any _;rfl)|refine JD ?_|(apply dCv;rfl;rfl;rfl;assumption;exact IsV.any _;rfl)|(apply dLn;rfl;rfl;rfl;rfl;rfl)|(apply dT (ty:=4);rfl;rfl;rfl;rfl)|(apply dF (ty:=4);rfl;rfl;rfl;rfl)|(apply dB (ty:=4);rfl;rfl;rfl;rfl)|refine Jh ?_|(apply Wp.draw tOk follows;kernel_rfl)|intro hb
      · exact RetR.ret rfl ⟨rfl,c,3,by omega,rfl⟩
      all_goals exact RetR.ret rfl ⟨rfl,0,0,by omega,rfl⟩
 obtain ⟨r,H1,h1,rfl,c,n,hn,rfl⟩:=key
 exact ⟨c,n,hn,fun H=>Z0 h1 rfl rfl H⟩
theorem ZiA (h:c=32∨c=9∨c=10∨c=13):1=Xv c:=by unfold Xv;rw [if_pos h]
theorem Ze8:XX c=true↔(97≤c∧c≤122)∨(65≤c∧c≤90):=by simp [XX]
theorem Zf9:Uz c=true↔48≤c∧c≤57:=by simp [Uz]
theorem Zir (h:(97≤c∧c≤122)∨(65≤c∧c≤90)):2=Xv c:=by unfold Xv;rw [if_neg (by omega),if_pos (Ze8.2 h)]
theorem Zid (h:48≤c∧c≤57):3=Xv c:=by unfold Xv;rw [if_neg (by omega),if_neg (by rw [Ze8];omega),if_pos (Zf9.2 h)]
theorem Zh7 (h:c=34):5=Xv c:=by unfold Xv;rw [if_neg (by omega),if_neg (by rw [Ze8];omega),if_neg (by rw [Zf9];omega),if_pos h]
theorem ZiI (h1:¬ (c=32∨c=9∨c=10∨c=13)) (h2:¬ ((97≤c∧c≤122)∨(65≤c∧c≤90))) (h3:¬ (48≤c∧c≤57)) (h4:c≠34):Xv c=if symsB.any (fun x=>decide ((x.toNat:Int)=c))=true then 4 else 0:=by
 unfold Xv
 rw [if_neg h1,if_neg (by rw [Ze8];exact h2),if_neg (by rw [Zf9];exact h3),if_neg h4]
theorem c83 (c:Int):∀ H,CallOk E0 Tryz.prog 83 [.int .u8 c] H (.int .i64 (Xv c)) H:=by
 refine Jw tOk fe83.ok rfl ?_
 repeat' first|refine Jk ?_|refine JX ?_|refine Ji ?_|refine Jl ?_|refine Jt ?_|refine Jb ?_ ?_|refine Jo ?_|intro hb
 all_goals first
  | (refine Zz (ZiA ?_);(simp at* <;> omega);done)
  | (refine Zz (Zir ?_);(simp at* <;> omega);done)
  | (refine Zz (Zid ?_);(simp at* <;> omega);done)
  | (refine Zz (Zh7 ?_);(simp at* <;> omega);done)
  | skip
 all_goals
  have k:Xv c=if symsB.any (fun x=>decide ((x.toNat:Int)=c))=true then 4 else 0:=by
   refine ZiI ?_ ?_ ?_ ?_
   all_goals (simp at* <;> omega)
  rw [k]
  clear k
  refine Wp.while (fun m tm H=>∃ (i:Nat) (base:TM),i+m=18∧symsB.any (fun x=>decide ((x.toNat:Int)=c))=(symsB.drop i).any (fun x=>decide ((x.toNat:Int)=c))∧tm=ovr base [(0,.int .u8 c),(3,.str symsB),(4,.int .i64 (i:Int))]∧H=⟨[],0,[],0⟩)
   (fun m tm H hI=>Wp.drop ?_) 18 _ _ ⟨0,_,by omega,rfl,Zf ⟨rfl,rfl,rfl,trivial⟩,rfl⟩
  obtain ⟨i,base,hi,hgo,rfl,rfl⟩:=hI
  rw [hgo]
  have hlx:=Zn (i:Int) 18
  by_cases hlt:i<18
  · rw [decide_eq_true (by omega)] at hlx
    obtain ⟨x,hx⟩:∃ x,symsB[i]? = some x:=⟨symsB[i]'(by simp [symsB];omega),by simp⟩
    have hjx:=Vi hx
    have hii:=Zy (a:=(i:Int)) (b:=1) (by omega) (by omega)
    rw [show (i:Int)+1=((i+1:Nat):Int) by omega] at hii
    have hq:=X6 (x.toNat:Int) c
    rw [ZA hx,List.any_cons]
    generalize decide ((x.toNat:Int)=c)=B at hq ⊢
    cases B with
    | true =>
      rw [Bool.true_or,if_pos rfl]
      repeat' first|refine Jk ?_|refine JX ?_|refine Ji ?_|refine Jl ?_|refine Jt ?_|refine Jb ?_ ?_|refine Jo ?_|intro hb
      all_goals rfl
    | false =>
      rw [Bool.false_or]
      repeat' first|refine Jk ?_|refine JX ?_|refine Ji ?_|refine Jl ?_|refine Jt ?_|refine Jb ?_ ?_|refine Jo ?_|intro hb
      refine DropQ.go [(0,.int .u8 c),(3,.str symsB),(4,.int .i64 ((i+1:Nat):Int))] ⟨rfl,rfl,rfl,trivial⟩ rfl rfl rfl ?_
      exact LoopI.go (m-1) (by omega) ⟨i+1,_,by omega,rfl,rfl,rfl⟩
  · have e : i = 18 := by omega
    subst e
    rw [decide_eq_false (by omega)] at hlx
    repeat' first|refine Jk ?_|refine JX ?_|refine Ji ?_|refine Jl ?_|refine Jt ?_|refine Jb ?_ ?_|refine Jo ?_|intro hb
    all_goals rfl
