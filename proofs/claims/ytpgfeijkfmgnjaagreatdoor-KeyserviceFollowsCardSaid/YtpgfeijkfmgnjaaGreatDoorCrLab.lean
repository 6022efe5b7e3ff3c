/-
  Dotted names, and when one lies within another, as the program computes them.
-/
import Derived.Test.YtpgfeijkfmgnjaaGreatDoorAwOr
set_option maxHeartbeats 0
set_option maxRecDepth 100000
namespace Go.Vm.Seat
variable {i:Nat} {s:Bs}
open Go.Proofs
theorem ZvI (s:Bs) (H:Heap):CallOk E0 Tryz.prog 210 [.str s,.int .u8 46] H (.int .i64 (V7 s 46 0)) H:=(z210 [.str s,.int .u8 46] H _ _ rfl).1
theorem Zu3 (s:Bs) (H:Heap):CallOk E0 Tryz.prog 261 [.str s,.int .u8 46] H (.int .i64 (ZbQ s 46)) H:=(Zr5 [.str s,.int .u8 46] H _ _ rfl).1
theorem ZsI (s:Bs):∀ H,CallOk E0 Tryz.prog 165 [.str s,.int .u8 46] H (.int .i64 (V7 s 46 0)) H:=by
 refine Jw tOk fe165.ok rfl ?_
 repeat' first|refine Jc (ZvI s _) ?_|refine Jo ?_|fail
 all_goals rfl
theorem c127 (s:Bs):∀ H,CallOk E0 Tryz.prog 127 [.str s,.str [46]] H (.int .i64 (V7 s 46 0)) H:=by
 refine Jw tOk fe127.ok rfl ?_
 repeat' first|refine Jc (ZsI _ _) ?_|refine Jt ?_|refine Jb ?_ ?_|refine Jo ?_|intro hb
 · simp at hb
   subst hb
   rfl
 · rfl
theorem c87 (s:Bs):∀ H,CallOk E0 Tryz.prog 87 [.str s,.str [46]] H (.int .i64 (V7 s 46 0)) H:=by
 refine Jw tOk fe87.ok rfl ?_
 repeat' first|refine Jc (c127 _ _) ?_|refine Jo ?_|fail
 all_goals rfl
theorem Zto (s:Bs):∀ H,CallOk E0 Tryz.prog 231 [.str s,.str [46]] H (.int .i64 (ZbQ s 46)) H:=by
 refine Jw tOk fe231.ok rfl ?_
 repeat' first|refine Jc (Zu3 s _) ?_|refine Jt ?_|refine Jo ?_|fail
 all_goals rfl
def ZM (l:List Bs):List (List PV):=l.map fun x=>[.str x]
theorem ZaU:∀ l:List Bs,Xm (ZM l)=some (ZM l)
 | []=>rfl
 | x :: l => by
   have:=ZaU l
   unfold ZM at this ⊢
   simp only [List.map_cons,Xm,XY,frz1,this]
theorem ZmP (H:Heap) (l:List Bs) (k:Nat) (hk:k=l.length) (hH:nth H.bx 0=some (.cells 1 (ZM l))):frz3 0 H (.own 0 1 0 k)=some (.sl .none 1 (ZM l)):=by
 have hl:(ZM l).length=k:=by simp [ZM,hk]
 have h1:((ZM l).drop 0).take k=ZM l:=by rw [List.drop_zero, ← hl,List.take_length]
 show frzC 0 H (.own 0 1 0 k)=_
 simp only [frzC,Nat.not_lt_zero,if_false,hH,true_and,Nat.zero_add,hl,Nat.le_refl,if_true,h1,ZaU]
theorem ZoP {pre:List (List PV)} {x y:List PV} {r:List (List PV)} (hi:i=pre.length):(pre++x::r).set i y=pre++y::r:=by
 subst hi
 simp
theorem Zva (hs:s.length≤100000):∀ H,CallOk E0 Tryz.prog 182 [.str s,.str [46],.int .i64 0,.int .i64 (-1)] H (.sl .none 1 (ZM (ZG s))) H:=by
 have hfr:frz3 0 hNil (.sl .none 1 (ZM (ZG s)))=some (.sl .none 1 (ZM (ZG s))):=rfl
 refine Zm (own:=E0.own 182) tOk fe182.ok rfl hfr ?_
 have hc0:=Zto s
 rw [Wx] at hc0
 have hN:=Zjv s
 obtain ⟨N,hNe⟩:∃ N,N=ZlX s:=⟨_,rfl⟩
 rw [← hNe] at hc0 hN
 have hmin:ZdH [.int .i64 (IntKind.i64.wrap (Int.ofNat s.length+1))] (.int .i64 (IntKind.i64.wrap ((N:Int)+1)))=some (.int .i64 ((N+1:Nat):Int)):=by
  have e1:IntKind.i64.wrap (Int.ofNat s.length+1)=((s.length+1:Nat):Int):=Zg (n:=s.length+1) (by omega)
  have e2:IntKind.i64.wrap ((N:Int)+1)=((N+1:Nat):Int):=Zg (n:=N+1) (by omega)
  rw [e1,e2]
  simp only [ZdH]
  rw [if_neg (by omega)]
 have hmk:XF E0 61 (.int .i64 ((N+1:Nat):Int)) (.int .i64 ((N+1:Nat):Int)) hNil=some (.own 0 1 0 (N+1),⟨[.cells 1 (List.replicate (N+1) [.str []])],0,[],0⟩):=by
  have e22:E0.T 61=some ⟨.slice 9,1,24,.nils⟩:=by kernel_rfl
  have e9:E0.T 9=some ⟨.string,1,16,.str []⟩:=by kernel_rfl
  have en:nat? (.int .i64 ((N+1:Nat):Int))=some (N+1):=rfl
  simp only [XF,e22,e9,en]
  rw [if_pos ⟨rfl,by decide,by omega,by omega⟩]
  simp [Heap.push,hNil,PV.cells]
 refine Wp.seq ?_
 repeat' first|refine Jc (hc0 _) ?_|(apply qMk;rfl;rfl;rfl;rfl;rfl;assumption)|(apply RegQ.rMin;rfl;rfl;rfl;rfl;assumption)|refine Jt ?_|refine Jo ?_|fail
 have e22:E0.T 61=some ⟨.slice 9,1,24,.nils⟩:=by kernel_rfl
 have e9:E0.T 9=some ⟨.string,1,16,.str []⟩:=by kernel_rfl
 have hia:∀ i:Nat,i<N+1→Zp E0 61 (.own 0 1 0 (N+1)) (.int .i64 (i:Int))=some (.ptr 0 1 (0+i) 0):=fun i hi=>by
  have en:nat? (.int .i64 (i:Int))=some i:=rfl
  simp only [Zp,e22,en,e9,if_true]
  rw [if_pos hi]
 have hwrG:∀ (pre:List Bs) (x:Bs) (r:List (List PV)),Heap.wr ⟨[.cells 1 (ZM pre++ [.str []]::r)],0,[],0⟩ (.ptr 0 1 (0+pre.length) 0) [.str x]=some ⟨[.cells 1 (ZM (pre++ [x])++r)],0,[],0⟩:=fun pre x r=>by
  have hl:(ZM pre).length=pre.length:=by simp [ZM]
  have hn:nth (ZM pre++ [PV.str []]::r) (0+pre.length)=some [.str []]:=by
   rw [ZA,Nat.zero_add, ← hl]
   simp
  have hs:(ZM pre++ [PV.str []]::r).set (0+pre.length) [.str x]=ZM (pre++ [x])++r:=by
   rw [ZoP (by rw [hl,Nat.zero_add])]
   simp [ZM]
  have h0:nth [Box.cells 1 (ZM pre++ [PV.str []]::r)] 0=some (.cells 1 (ZM pre++ [PV.str []]::r)):=rfl
  rw [Nat.zero_add] at hs hn
  simp only [Heap.wr,h0,if_true,Nat.zero_add,hn,List.length_cons,List.length_nil,Nat.le_refl,List.take_zero,List.nil_append,List.drop_one,List.tail_cons]
  simp only [Heap.put,Nat.not_lt_zero,if_false,List.append_nil,hs,List.set_cons_zero]
 refine Wp.while (fun m tm H => ∃ (i : Nat) (rest : Bs) (pre : List Bs) (base : TM), i + m = N ∧ pre.length = i ∧ ZG s = pre ++ ZG rest ∧ ZlX rest = m ∧ rest.length ≤ 100000 ∧
   tm=ovr base [(0,.str rest),(1,.str [46]),(2,.int .i64 0),(3,.int .i64 (N:Int)),(9,.own 0 1 0 (N+1)),(10,.int .i64 (i:Int))]∧H=⟨[.cells 1 (ZM pre++List.replicate (m+1) [.str []])],0,[],0⟩)
  (fun m tm H hI => ?_) N _ _ ⟨0, s, [], _, by omega, rfl, by simp, hNe.symm, hs, Zi ⟨rfl, rfl, rfl, Zj (by
    have e:((N+1:Nat):Int)-1=(N:Int):=by omega
    show IntKind.i64.wrap (((N+1:Nat):Int)-1)=_
    rw [e]
    exact Zg (by omega)),rfl,rfl,trivial⟩,rfl⟩
 obtain ⟨i,rest,pre,base,hi,hpl,hsp,hcn,hrl,rfl,rfl⟩:=hI
 clear hmin hmk hc0
 have hc1:=c87 rest
 have hia1:=hia i (by omega)
 cases m with
 | zero =>
   have hio:i=N:=by omega
   subst hio
   rcases ZcS rest with ⟨q1,q2,q3⟩|⟨a,b,q1,q2,q3,q4⟩
   case inr=>rw [Wx,Wx,hcn] at q4;omega
   have hwr:Heap.wr ⟨[.cells 1 (ZM pre++List.replicate (0+1) [.str []])],0,[],0⟩ (.ptr 0 1 (0+i) 0) [.str rest]=some ⟨[.cells 1 (ZM (pre++ [rest]))],0,[],0⟩:=by
    have:=hwrG pre rest []
    rw [hpl] at this
    simpa using this
   have h65:ZW E0 61 (.own 0 1 0 (i+1)) none (some (.int .i64 (IntKind.i64.wrap ((i:Int)+1)))) none=some (.own 0 1 0 (i+1)):=by
    have ew:IntKind.i64.wrap ((i:Int)+1)=((i+1:Nat):Int):=Zg (n:=i+1) (by omega)
    have en:nat? (.int .i64 ((i+1:Nat):Int))=some (i+1):=rfl
    rw [ew]
    simp only [ZW,e22,e9,if_true,Xa,en,Nat.le_refl,Nat.add_zero,Nat.sub_zero]
   repeat' first|refine JS ?_|refine JJ ?_|refine Jb ?_ ?_|refine Jo ?_|intro hb
   all_goals first
    | (exfalso;simp at hb;done)
    | skip
   refine ZmP _ _ _ ?_ ?_
   · rw [hsp,q3];simp [hpl]
   · rw [hsp,q3];rfl
 | succ m =>
   rcases ZcS rest with ⟨q1,q2,q3⟩|⟨a,b,q1,q2,q3,q4⟩
   case inl=>rw [Wx,hcn] at q2;omega
   rw [q2] at hc1
   have hal:a.length≤100000:=by rw [q1] at hrl;simp at hrl;omega
   have h48:ZW E0 9 (.str rest) none (some (.int .i64 (IntKind.i64.wrap ((a.length:Int)+0)))) none=some (.str a):=by
    have ew:IntKind.i64.wrap ((a.length:Int)+0)=(a.length:Int):=by rw [Int.add_zero];exact Zg (by omega)
    have en:nat? (.int .i64 (a.length:Int))=some a.length:=rfl
    rw [ew,q1]
    simp only [ZW,e9,Xa,en]
    rw [if_pos (by simp)]
    simp
   have h55:ZW E0 9 (.str rest) (some (.int .i64 (IntKind.i64.wrap ((a.length:Int)+Int.ofNat [(46:UInt8)].length)))) none none=some (.str b):=by
    have ew:IntKind.i64.wrap ((a.length:Int)+Int.ofNat [(46:UInt8)].length)=((a.length+1:Nat):Int):=Zg (n:=a.length+1) (by omega)
    have en:nat? (.int .i64 ((a.length+1:Nat):Int))=some (a.length+1):=rfl
    rw [ew,q1]
    simp only [ZW,e9,Xa,en]
    rw [if_pos (by simp),List.take_length]
    have e:a++46::b=(a++ [46])++b:=by simp
    show some (PV.str (List.drop (a.length+1) (a++46::b)))=some (.str b)
    rw [e,List.drop_left' (by simp)]
   have hwr:Heap.wr ⟨[.cells 1 (ZM pre++List.replicate (m+1+1) [.str []])],0,[],0⟩ (.ptr 0 1 (0+i) 0) [.str a]=some ⟨[.cells 1 (ZM (pre++ [a])++List.replicate (m+1) [.str []])],0,[],0⟩:=by
    have:=hwrG pre a (List.replicate (m+1) [.str []])
    rw [hpl] at this
    exact this
   repeat' first|refine Jc (hc1 _) ?_|refine JS ?_|refine JJ ?_|refine Jt ?_|refine Jb ?_ ?_|refine Jo ?_|intro hb
   all_goals first
    | (exfalso;simp at hb;omega)
    | skip
   refine LoopI.go m (by omega) ⟨i+1,b,pre++ [a],_,by omega,by simp [hpl],by rw [hsp,q3];simp,?_,by rw [q1] at hrl;simp at hrl;omega,Zi ⟨rfl,rfl,rfl,rfl,rfl,Zj (Zg (n:=i+1) (by omega)),trivial⟩,rfl⟩
   rw [Wx,Wx,hcn] at q4
   omega
def Zqa:Bs:=[97,98,99,100,101,102,103,104,105,106,107,108,109,110,111,112,113,114,115,116,117,118,119,120,121,122,48,49,50,51,52,53,54,55,56,57]
def alN (n:Nat):Bool:=(Nat.ble 97 n&&Nat.ble n 122)||(Nat.ble 48 n&&Nat.ble n 57)
def alB (c:UInt8):Bool:=alN c.toNat
def setC:List PV:=(List.range 256).map fun n=> .bool (alN n)
theorem UT:setC.length=256:=by simp [setC]
theorem Zj8 {n:Nat} (h:n<256):setC[n]? = some (.bool (alN n)):=by
 simp [setC,h]
theorem ZrA:QQ E0 100 60 ⟨185,[.str Zqa],.tup [.agg setC,.bool true]⟩=true:=by kernel_rfl
theorem Zsv:E0.T 190=some ⟨.array 256 4,256,256,.agg (List.replicate 256 (.bool false))⟩:=by kernel_rfl
theorem e4:E0.T 4=some ⟨.bool,1,1,.bool false⟩:=by kernel_rfl
theorem e9s:E0.T 9=some ⟨.string,1,16,.str []⟩:=by kernel_rfl
theorem Zmf:setC.all Z7=true:=by
 simp [setC,Z7]
attribute [irreducible] setC
abbrev Zh0 (ro:Nat) (lv:List Nat) (nt:Nat):Heap:=⟨[.cells 256 [setC]],ro,lv,nt⟩
theorem c232 (c:UInt8) (ro:Nat) (lv:List Nat) (nt:Nat):CallOk E0 Tryz.prog 232 [.ptr 0 256 0 0,.int .u8 (c.toNat:Int)] (Zh0 ro lv nt) (.bool (alB c)) (Zh0 ro lv nt):=by
 have hc:c.toNat<256:=c.toNat_lt
 have h1:Zp E0 190 (.ptr 0 256 0 0) (.int .u8 (c.toNat:Int))=some (.ptr 0 256 0 (0+c.toNat*1)):=by
  have en:nat? (.int .u8 (c.toNat:Int))=some c.toNat:=rfl
  simp only [Zp,Zsv,e4,en]
  rw [if_pos hc]
 have h2:YO E0 4 (.ptr 0 256 0 (0+c.toNat*1)) (UK (Zh0 ro lv nt))=some (.bool (alB c)):=by
  have hn:nth (UK (Zh0 ro lv nt)).bx 0=some (.cells 256 [setC]):=rfl
  have hm:nth [setC] 0=some setC:=rfl
  have hd:(setC.drop (0+c.toNat*1)).take 1= [.bool (alN c.toNat)]:=by
   have hl:c.toNat<setC.length:=by rw [UT];exact hc
   rw [Nat.zero_add,Nat.mul_one,List.drop_eq_getElem_cons hl]
   have:=Zj8 hc
   rw [List.getElem?_eq_getElem hl] at this
   simp only [Option.some.injEq] at this
   simp [this]
  simp only [YO,e4,Heap.rd,hn,if_true,hm,QH,Bool.false_eq_true,if_false]
  rw [if_pos (by rw [UT];omega),hd]
  rfl
 refine Qp (own:=fun _=>false) tOk fe232.ok ?_
 refine Wp.seq ?_
 repeat' first|refine JJ ?_|(apply qLd;rfl;rfl;rfl;assumption;exact IsV.any _)|refine Jt ?_|refine Jb ?_ ?_|refine Jo ?_|intro hb
 all_goals (rw [hb];rfl)
theorem ZoZ (c:UInt8) (r:Bs):ZW E0 9 (.str (c::r)) (some (.int .i64 1)) none none=some (.str r):=by
 have en:nat? (.int .i64 1)=some 1:=rfl
 simp only [ZW,e9s,Xa,en]
 rw [if_pos (by simp),List.take_length]
 rfl
theorem ZuE (s:Bs) (ro:Nat) (lv:List Nat) (nt:Nat):CallOk E0 Tryz.prog 186 [.str s,.ptr 0 256 0 0] (Zh0 ro lv nt) (.str (s.dropWhile alB)) (Zh0 ro lv nt):=by
 refine Qp (own:=fun _=>false) tOk fe186.ok ?_
 refine Wp.seq ?_
 repeat' first|refine Jo ?_|fail
 refine Wp.while (fun m tm H=>∃ (rest:Bs) (base:TM),rest.length=m∧s.dropWhile alB=rest.dropWhile alB∧tm=ovr base [(0,.str rest),(1,.ptr 0 256 0 0)]∧H=UK (Zh0 ro lv nt))
  (fun m tm H hI=>?_) s.length _ _ ⟨s,_,rfl,rfl,Zi ⟨rfl,rfl,trivial⟩,rfl⟩
 obtain ⟨rest,base,hl,hd,rfl,rfl⟩:=hI
 cases rest with
 | nil =>
   repeat' first|refine Jt ?_|refine Jo ?_|fail
   rw [hd];rfl
 | cons c r =>
   have hc:=c232 c 1 [] nt
   have hs:=ZoZ c r
   repeat' first|refine Jc hc ?_|refine JS ?_|refine Jb ?_ ?_|refine Jo ?_|intro hb
   all_goals first
    | (exfalso;simp at hb;done)
    | (exfalso;simp at hb;omega)
    | skip
   · have hc0 : alB c = false := by simpa using hb
     rw [hd]
     simp only [List.dropWhile_cons,hc0,Bool.false_eq_true,if_false]
     rfl
   · have hc0 : alB c = true := by simpa using hb
     refine LoopI.go r.length (by simp at hl;omega) ⟨r,_,rfl,?_,Zi ⟨rfl,rfl,trivial⟩,rfl⟩
     rw [hd]
     simp only [List.dropWhile_cons,hc0,if_true]
def XV (s:Bs):Bs:=(s.reverse.dropWhile alB).reverse
theorem QK (r:Bs) (c:UInt8):XV (r++ [c])=if alB c=true then XV r else r++ [c]:=by
 simp only [XV,List.reverse_append,List.reverse_cons,List.reverse_nil,List.nil_append,List.cons_append,List.dropWhile_cons]
 split
 · rfl
 · simp
theorem ZhQ (h:s≠ []):∃ r c,s=r++ [c]:=⟨s.dropLast,s.getLast h,(List.dropLast_concat_getLast h).symm⟩
theorem Zux (s:Bs) (hs:s.length≤100000) (ro:Nat) (lv:List Nat) (nt:Nat):CallOk E0 Tryz.prog 187 [.str s,.ptr 0 256 0 0] (Zh0 ro lv nt) (.str (XV s)) (Zh0 ro lv nt):=by
 refine Qp (own:=fun _=>false) tOk fe187.ok ?_
 refine Wp.seq ?_
 repeat' first|refine Jo ?_|fail
 refine Wp.while (fun m tm H=>∃ (rest:Bs) (base:TM),rest.length=m∧rest.length≤100000∧XV s=XV rest∧tm=ovr base [(0,.str rest),(1,.ptr 0 256 0 0)]∧H=UK (Zh0 ro lv nt))
  (fun m tm H hI=>?_) s.length _ _ ⟨s,_,rfl,hs,rfl,Zi ⟨rfl,rfl,trivial⟩,rfl⟩
 obtain ⟨rest,base,hl,hrl,hd,rfl,rfl⟩:=hI
 by_cases hne:rest= []
 · subst hne
   repeat' first|refine Jt ?_|refine Jo ?_|fail
   rw [hd];rfl
 · obtain ⟨r, c, rfl⟩ := ZhQ hne
   have hc:=c232 c 1 [] nt
   have hr1:r.length≤100000:=by simp at hrl;omega
   have ew:IntKind.i64.wrap (Int.ofNat (r++ [c]).length-1)=(r.length:Int):=by
    have e:Int.ofNat (r++ [c]).length-1=(r.length:Int):=by simp
    rw [e];exact Zg (by omega)
   have en:nat? (.int .i64 (r.length:Int))=some r.length:=rfl
   have hix:Vi E0 9 (.str (r++ [c])) (.int .i64 (IntKind.i64.wrap (Int.ofNat (r++ [c]).length-1)))=some (.int .u8 (c.toNat:Int)):=by
    rw [ew]
    have hn:nth (r++ [c]) r.length=some c:=by rw [ZA];simp
    simp only [Vi,e9s,en,hn]
    rfl
   have hsl:ZW E0 9 (.str (r++ [c])) none (some (.int .i64 (IntKind.i64.wrap (Int.ofNat (r++ [c]).length-1)))) none=some (.str r):=by
    rw [ew]
    simp only [ZW,e9s,Xa,en]
    rw [if_pos (by simp)]
    simp
   repeat' first|refine Jc hc ?_|refine JS ?_|refine JX ?_|refine Jb ?_ ?_|refine Jo ?_|intro hb
   all_goals first
    | (exfalso;simp at hb;done)
    | (exfalso;simp at hb;omega)
    | skip
   · have hc0 : alB c = false := by simpa using hb
     rw [hd,QK,if_neg (by simp [hc0])]
     rfl
   · have hc0 : alB c = true := by simpa using hb
     refine LoopI.go r.length (by simp at hl;omega) ⟨r,_,rfl,hr1,?_,Zi ⟨rfl,rfl,trivial⟩,rfl⟩
     rw [hd,QK,if_pos hc0]
theorem ZuB:∀ H,CallOk E0 Tryz.prog 185 [.str Zqa] H (.tup [.agg setC,.bool true]) H:=Xs tOk follows fOk zOk ZrA
def ZmW (s:Bs):Bs:=(XV s).dropWhile alB
theorem ZkU:Heap.wr ⟨[.cells 256 [List.replicate 256 (.bool false)]],0,[],0⟩ (.ptr 0 256 0 0) setC=some (Zh0 0 [] 0):=by
 have h0:nth [Box.cells 256 [List.replicate 256 (PV.bool false)]] 0=some (.cells 256 [List.replicate 256 (PV.bool false)]):=rfl
 have h1:nth [List.replicate 256 (PV.bool false)] 0=some (List.replicate 256 (.bool false)):=rfl
 simp only [Heap.wr,h0,if_true,h1]
 rw [if_pos (by rw [UT];simp)]
 simp [Heap.put,UT]
theorem Zt9 (s:Bs) (hs:s.length≤100000):∀ H,CallOk E0 Tryz.prog 140 [.str s,.str Zqa] H (.str (ZmW s)) H:=by
 refine Jw tOk fe140.ok rfl ?_
 have hal:∀ ρ,aOp E0 false ρ (.alloc 190) hNil=some (.ptr 0 256 0 0,⟨[.cells 256 [List.replicate 256 (.bool false)]],0,[],0⟩):=fun ρ=>by
  simp only [aOp,Zsv]
  rw [if_pos ⟨by simp [PV.cells],by omega⟩]
  rfl
 have hl:(Nat.beq setC.length 256&&Nat.blt 0 256)=true:=by rw [UT];rfl
 have hc:setC.all Z7=true:=Zmf
 have hst:=ZkU
 have h1:=Zux s hs 0 [] 0
 have h2:=ZuE (XV s) 0 [] 0
 repeat' first|refine Jk ?_|(apply qCl;rfl;rfl;rfl;rfl;first|exact ZuB _|exact h1|exact h2)|(apply RegQ.rAl;rfl;rfl;assumption)|refine Jt ?_|refine Jb ?_ ?_|refine Jo ?_|intro hb
 · simp at hb
   subst hb
   rfl
 · rfl
theorem W8:s.dropWhile alB= []↔s.all alB=true:=by
 induction s with
 |nil=>simp
 | cons c r ih =>
   simp only [List.dropWhile_cons,List.all_cons,Bool.and_eq_true]
   by_cases h:alB c=true
   · simp [h,ih]
   · simp [h]
theorem Zf7:ZmW s= []↔s.all alB=true:=by
 unfold ZmW
 rw [W8]
 constructor
 · intro h
   by_cases hn:XV s= []
   · unfold XV at hn
     have h2:s.reverse.dropWhile alB= []:=by simpa using hn
     have:=W8.1 h2
     simpa using this
   · exfalso
     obtain ⟨r,c,e⟩:=ZhQ hn
     have hc:alB c=true:=by
      rw [e] at h
      simp only [List.all_append,List.all_cons,List.all_nil,Bool.and_true,Bool.and_eq_true] at h
      exact h.2
     have h3:s.reverse.dropWhile alB=c::r.reverse:=by
      have:=congrArg List.reverse e
      simpa [XV] using this
     have h4:=List.head_dropWhile_not alB (l:=s.reverse) (by rw [h3];simp)
     simp only [h3,List.head_cons] at h4
     rw [hc] at h4
     cases h4
 · intro h
   have h2:s.reverse.dropWhile alB= []:=W8.2 (by simpa using h)
   simp [XV,h2]
theorem Zta (hs:s.length≤100000):∀ H,CallOk E0 Tryz.prog 139 [.str s,.str [46]] H (.sl .none 1 (ZM (ZG s))) H:=by
 have hc:=Zva hs
 refine Jw tOk fe139.ok rfl ?_
 repeat' first|refine Jc (hc _) ?_|refine Jo ?_|fail
 all_goals rfl
theorem ZnI (c:UInt8):alB c=(ZkS c||Zmi c):=by
 simp only [alB,alN,ZkS,Zmi]
 congr 1<;>(rw [Bool.eq_iff_iff];simp)
theorem Zg8 (c:UInt8) (r:Bs):Yx (c::r)=true↔¬ (8<(c::r).length)∧97≤c.toNat∧c.toNat≤122∧(c::r).all alB=true:=by
 have e:alB=fun x=>ZkS x||Zmi x:=funext ZnI
 rw [e]
 simp only [Yx,ZkS,Bool.and_eq_true,decide_eq_true_eq,List.all_cons,List.length_cons]
 constructor
 · rintro ⟨⟨h1, h2⟩, h3, h4⟩
   exact ⟨by omega,h1,h2,by simp [h1,h2],h3⟩
 · rintro ⟨h1, h2, h3, _, h5⟩
   exact ⟨⟨h2,h3⟩,h5,by omega⟩
def Uj (s:Bs):PV:=match ZB s with|true=> .sl .none 1 (ZM (ZG s))|false=> .nils
theorem e22:E0.T 61=some ⟨.slice 9,1,24,.nils⟩:=by kernel_rfl
theorem Zrv {l:List Bs} {x:Bs} (h:l[i]? = some x):Zp E0 61 (.sl .none 1 (ZM l)) (.int .i64 (i:Int))=some (.fptr [.str x] 0):=by
 have en:nat? (.int .i64 (i:Int))=some i:=rfl
 have hn:nth (ZM l) i=some [.str x]:=by rw [ZA];simp [ZM,h]
 simp only [Zp,e22,en,e9s,if_true,hn]
theorem Zha (s:Bs):∀ x,x∈ZG s→x.length≤s.length:=by
 induction s with
 |nil=>intro x hx;simp [ZG] at hx;subst hx;simp
 | cons c r ih =>
   intro x hx
   simp only [ZG] at hx
   split at hx
   · rcases List.mem_cons.1 hx with rfl | hx
     · simp
     · have:=ih x hx;simp;omega
   · cases hs : ZG r with
     | nil=>exact absurd hs (WM r)
     | cons y l =>
       rw [hs] at hx ih
       rcases List.mem_cons.1 hx with rfl|hx
       · have:=ih y (by simp);simp;omega
       · have:=ih x (by simp [hx]);simp;omega
theorem c96 (hs:s.length≤100000):∀ H,CallOk E0 Tryz.prog 96 [.str s] H (Uj s) H:=by
 have hfr:frz3 0 hNil (Uj s)=some (Uj s):=by unfold Uj;cases ZB s<;>rfl
 refine Zm (own:=fun _=>false) tOk fe96.ok rfl hfr ?_
 have hsp:=Zta hs
 have hlen:=Zha s
 obtain ⟨l,hl⟩:∃ l,l=ZG s:=⟨_,rfl⟩
 have hdot:ZB s=(decide (l.length≤4)&&l.all Yx):=by rw [hl];rfl
 have hR:Uj s=match ZB s with|true=> .sl .none 1 (ZM l)|false=> .nils:=by rw [hl];rfl
 rw [← hl] at hsp hlen
 have hpl:(ZM l).length=l.length:=by simp [ZM]
 refine Wp.seq ?_
 repeat' first|refine Jc (hsp _) ?_|refine Jb ?_ ?_|refine Jo ?_|intro hb
 · have h4 : 4 < l.length := by rw [← hpl]; simp at hb; omega
   have hd:ZB s=false:=by rw [hdot];simp;omega
   rw [hR,hd];rfl
 have h4:l.length≤4:=by rw [← hpl];simp at hb;omega
 refine Wp.while (fun m tm H => ∃ (i : Nat) (base : TM), i + m = l.length ∧ (l.take i).all Yx = true ∧
   tm=ovr base [(3,.sl .none 1 (ZM l)),(11,.sl .none 1 (ZM l)),(12,.int .i64 (l.length:Int)),(13,.int .i64 (i:Int))]∧H=hNil)
  (fun m tm H hI=>?_) l.length _ _ ⟨0,_,by omega,by simp,Zi ⟨rfl,rfl,Zj (by rw [← hpl];rfl),rfl,trivial⟩,rfl⟩
 obtain ⟨i,base,hi,hall,rfl,rfl⟩:=hI
 by_cases hlt:i<l.length
 · obtain ⟨x, hx⟩ : ∃ x, l[i]? = some x := ⟨l[i], by simp⟩
   have hxm:x∈l:=List.mem_of_getElem? hx
   have hxl:x.length≤100000:=Nat.le_trans (hlen x hxm) hs
   have hia:=Zrv hx
   have bad:Yx x=false→ZB s=false:=fun h=>by
    rw [hdot]
    simp only [Bool.and_eq_false_iff]
    right
    rw [List.all_eq_false]
    exact ⟨x,hxm,by simp [h]⟩
   have htake:(l.take (i+1)).all Yx=((l.take i).all Yx&&Yx x):=by
    have:l.take (i+1)=l.take i++ [x]:=by
     rw [List.take_add_one];simp [hx]
    rw [this];simp
   have htr:=Zt9 x hxl
   cases x with
   | nil =>
     repeat' first|refine Jk ?_|refine JJ ?_|refine Jt ?_|refine Jz ?_ ?_|refine Jo ?_|intro hb
     · have hd := bad rfl
       rw [hR,hd];rfl
     · simp at hb;omega
   | cons c r =>
     have hlab:=Zg8 c r
     have neg:∀ P:Prop,P→(P→¬ (¬ (8<(c::r).length)∧97≤c.toNat∧c.toNat≤122∧(c::r).all alB=true))→Yx (c::r)=false:=fun P hp hn=>by
      cases h:Yx (c::r) with
      | false=>rfl
      | true=>exact absurd (hlab.1 h) (hn hp)
     repeat' first|refine Jk ?_|refine Jc (htr _) ?_|refine JJ ?_|refine Jt ?_|refine Jb ?_ ?_|refine Jz ?_ ?_|refine Jo ?_|intro hb
     · rw [hR, bad (neg _ hb fun h => by
         have h:8<Int.ofNat (c::r).length:=of_decide_eq_true h
         intro q
         have:=q.1
         simp only [Int.ofNat_eq_natCast] at h
         omega)]
       rfl
     · rw [hR, bad (neg _ hb fun h => by
         have h:Int.ofNat c.toNat<97:=of_decide_eq_true h
         intro q
         have:=q.2.1
         simp only [Int.ofNat_eq_natCast] at h
         omega)]
       rfl
     · rw [hR, bad (neg _ hb fun h => by
         have h:122<Int.ofNat c.toNat:=of_decide_eq_true h
         intro q
         have:=q.2.2.1
         simp only [Int.ofNat_eq_natCast] at h
         omega)]
       rfl
     · rw [hR, bad (neg _ hb fun h => by
         intro q
         rw [Zf7.2 q.2.2.2] at h
         cases h)]
       rfl
     · rename_i hb1 hb2 hb3 hb4
       have g1:¬ (8<(c::r).length):=by
        have h:=of_decide_eq_false hb2
        simp only [Int.ofNat_eq_natCast] at h
        omega
       have g2:97≤c.toNat:=by
        have h:=of_decide_eq_false hb3
        simp only [Int.ofNat_eq_natCast] at h
        omega
       have g3:c.toNat≤122:=by
        have h:=of_decide_eq_false hb4
        simp only [Int.ofNat_eq_natCast] at h
        omega
       have g4:(c::r).all alB=true:=by
        refine Zf7.1 ?_
        simpa using hb
       have hg:=hlab.2 ⟨g1,g2,g3,g4⟩
       refine LoopI.go (m-1) (by omega) ⟨i+1,_,by omega,by rw [htake,hall,hg];rfl,Zi ⟨rfl,rfl,rfl,Zj (Zg (n:=i+1) (by omega)),trivial⟩,rfl⟩
     · exfalso;simp at hb;omega
 · have e : i = l.length := by omega
   subst e
   rw [List.take_length] at hall
   have hd:ZB s=true:=by rw [hdot,hall];simpa using h4
   repeat' first|refine Jz ?_ ?_|refine Jo ?_|intro hb
   all_goals first
    | (exfalso;simp at hb;done)
    | (rw [hR,hd];rfl)
theorem c53 (hs:s.length≤100000):∀ H,CallOk E0 Tryz.prog 53 [.str s] H (.bool (ZB s)) H:=by
 refine Zm (own:=fun _=>false) tOk fe53.ok rfl rfl ?_
 have hc:=c96 hs
 unfold Uj at hc
 cases hd:ZB s with
 | false =>
   rw [hd] at hc
   refine Wp.seq ?_
   repeat' first|refine Jc (hc _) ?_|refine Jt ?_|refine Jo ?_|fail
   all_goals rfl
 | true =>
   rw [hd] at hc
   refine Wp.seq ?_
   repeat' first|refine Jc (hc _) ?_|refine Jt ?_|refine Jo ?_|fail
   all_goals rfl
