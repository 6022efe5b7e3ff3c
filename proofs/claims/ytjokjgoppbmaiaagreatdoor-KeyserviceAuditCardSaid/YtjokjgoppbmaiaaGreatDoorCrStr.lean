/-
  The oracles of this seat. strings.Index, Count and Split at a dot; strings.HasSuffix.
-/
import Derived.Test.YtjokjgoppbmaiaaGreatDoorAwShelf
import Derived.Test.YtjokjgoppbmaiaaGreatDoorFg
set_option maxHeartbeats 64000000
set_option maxRecDepth 100000
namespace Go.Vm.Seat
open Go.Proofs Go.RowKit Go.Lib
theorem z299:ZOk E0 Tryz.prog (299,idxZ):=idx_ok Tryz.func299 (by kernel_rfl) (by kernel_rfl) (by kernel_rfl) (by kernel_rfl)
theorem z295:ZOk E0 Tryz.prog (295,cntZ):=cnt_ok Tryz.func295 (by kernel_rfl) (by kernel_rfl) (by kernel_rfl) (by kernel_rfl)
theorem z203:ZOk E0 Tryz.prog (203,joinZ):=join_ok fe203.ok rfl (fun a c sep w=>Tryz.strings_Join_none a c sep w) fun bk o c xs sep w h1 h2 h3 h4 h5=>Tryz.strings_Join bk o c xs sep w h1 h2 h3 h4 h5
theorem z281:ZOk E0 Tryz.prog (281,ccZ 224):=cc_ok fe281.ok (fun b w h0 h1 h2=>Any.Builder_copyCheck_fresh {Tryz.lays156 with} Tryz.Builder_Extra_156.toX72 b w h0 h1 h2) (fun b w h0=>Any.Builder_copyCheck_used {Tryz.lays156 with} Tryz.Builder_Extra_156.toX72 b w h0) (by kernel_rfl)
theorem bstr_nil (b : Nat) (p : Value) (w : World) (hbk : w.heap[b]? = some (.cells #[p, .slice none 0 0] 224 (0, 0))) :
  Calls Tryz.prog 250 #[.pointer (some ⟨b,0,none⟩)] w fun e w'=>e= .returned (.string ⟨#[]⟩)∧w'=w.drew:=by
 have hUS:∀ pt it ty W,(Builtin.unsafeString_ #[pt,it] ty #[.pointer none,.int .i64 0]).run Tryz.prog W= .ok (.string .empty) W:=fun pt it ty W=>Lib.run_unsafeString_none W _ _ _ none
 have c1:w.drew.cell? ⟨b,1,none⟩=some (.slice none 0 0):=by
  have:w.drew.heap[b]? = some (.cells #[p,.slice none 0 0] 224 (0,0)):=hbk
  rw [Lib.cell_of_heap this];rfl
 have hSD:∀ ts ty,(Builtin.unsafeSliceData_ ts ty #[.slice none 0 0]).run Tryz.prog w.drew= .ok (.pointer none) w.drew:=fun _ _=>rfl
 have mixed:=follows
 go_enter Tryz.func250,Tryz.ntmps250
 go_wp2
 go_region_o
 all_goals (go_wp2;go_ret;exact ⟨rfl,rfl⟩)
theorem bstr_some (b : Nat) (p : Value) (bb o cap : Nat) (cur : Array Value) (l : List UInt8) (w : World) (hbk : w.heap[b]? = some (.cells #[p, .slice (some ⟨bb, o, none⟩) l.length cap] 224 (0, 0))) (hg : w.heap[bb]? = some (.cells cur 5 (0, 0))) (h0 : l ≠ []) (hn : l.length ≤ cap) (hcs : o + cap ≤ cur.size) (hm : l.length ≤ 1000000)
  (hcell:∀ j x,l[j]? = some x→w.cell? ⟨bb,o+j,none⟩=some (.int .u8 x.toNat)) :
  Calls Tryz.prog 250 #[.pointer (some ⟨b,0,none⟩)] w fun e w'=>e= .returned (.string ⟨l.toArray⟩)∧w'=w.drew.freeze ⟨bb,o,none⟩ l.length:=by
 have hl0:l.length≠0:=by simpa using h0
 have c1:w.drew.cell? ⟨b,1,none⟩=some (.slice (some ⟨bb,o,none⟩) l.length cap):=by
  have:w.drew.heap[b]? = some (.cells #[p,.slice (some ⟨bb,o,none⟩) l.length cap] 224 (0,0)):=hbk
  rw [Lib.cell_of_heap this];rfl
 have hc5:Tryz.prog.cellsOf 5=1:=by kernel_rfl
 have hSD:∀ ts ty,(Builtin.unsafeSliceData_ ts ty #[.slice (some ⟨bb,o,none⟩) l.length cap]).run Tryz.prog w.drew= .ok (.pointer (some ⟨bb,o,none⟩)) w.drew:=fun _ _=>
  Lib.run_unsafeSliceData_row _ _ _ _ _ _ (by omega)
 have hUS:∀ it ty,(Builtin.unsafeString_ #[246,it] ty #[.pointer (some ⟨bb,o,none⟩),.int .i64 l.length]).run Tryz.prog w.drew= .ok (.string ⟨l.toArray⟩) (w.drew.freeze ⟨bb,o,none⟩ l.length):=fun it ty=>
  run_unsafeString_at w.drew _ it ty 5 Tryz.underlying246 hc5 bb o cur.size (by have hg':w.drew.heap[bb]? = some (.cells cur 5 (0,0)):=hg;simp [World.shape?,hg']) l h0 (by omega) (by omega) (fun j x hj=>by
   have:=hcell j x hj
   rw [add_plain']
   exact this)
 clear hbk hg hn hcs hm hcell h0
 have mixed:=follows
 go_enter Tryz.func250,Tryz.ntmps250
 go_wp2
 go_region_o
 all_goals (go_wp2;go_ret;exact ⟨rfl,rfl⟩)
theorem z250:ZOk E0 Tryz.prog (250,bstrZ 224):=bstr_ok fe250.ok bstr_nil bstr_some (by kernel_rfl)
theorem z263:ZOk E0 Tryz.prog (263,cmpZ):=cmp_ok Tryz.func263 (by kernel_rfl) (by kernel_rfl) (by kernel_rfl) (by kernel_rfl)
theorem z1_263:ZOk E1 Tryz.prog (263,cmpZ):=cmp_ok Tryz.func263 (by kernel_rfl) (by kernel_rfl) (by kernel_rfl) (by kernel_rfl)
theorem zOk:CallsOk E0 Tryz.prog E0.Z:=findZ_ok (zok_cons z299 (zok_cons z295 (zok_cons z203 (zok_cons z281 (zok_cons z250 (zok_cons z263 zok_nil))))))
end Go.Vm.Seat
namespace Go.Vm.Seat
open Go.Proofs
theorem idxO (s:Bs) (H:Heap):CallOk E0 Tryz.prog 299 [.str s,.int .u8 46] H (.int .i64 (idxB s 46 0)) H:=(z299 [.str s,.int .u8 46] H _ _ rfl).1
theorem cntO (s:Bs) (H:Heap):CallOk E0 Tryz.prog 295 [.str s,.int .u8 46] H (.int .i64 (cntB s 46)) H:=(z295 [.str s,.int .u8 46] H _ _ rfl).1
theorem c273 (s:Bs):∀ H,CallOk E0 Tryz.prog 273 [.str s,.int .u8 46] H (.int .i64 (idxB s 46 0)) H:=by
 refine κw tOk fe273.ok rfl ?_
 repeat' first | refine κn ?_ | refine κc (idxO s _) ?_ | refine κg ?_ | refine κa ?_ | refine κf ?_ | fail
 all_goals rfl
theorem c246 (s:Bs):∀ H,CallOk E0 Tryz.prog 246 [.str s,.str [46]] H (.int .i64 (idxB s 46 0)) H:=by
 refine κw tOk fe246.ok rfl ?_
 repeat' first | refine κn ?_ | refine κc (c273 _ _) ?_ | refine κt ?_ | refine κb ?_ ?_ | refine κg ?_ | refine κa ?_ | refine κf ?_ | intro hb
 · simp at hb
   subst hb
   rfl
 · rfl
theorem c197 (s:Bs):∀ H,CallOk E0 Tryz.prog 197 [.str s,.str [46]] H (.int .i64 (idxB s 46 0)) H:=by
 refine κw tOk fe197.ok rfl ?_
 repeat' first | refine κn ?_ | refine κc (c246 _ _) ?_ | refine κg ?_ | refine κa ?_ | refine κf ?_ | fail
 all_goals rfl
theorem c268 (s:Bs):∀ H,CallOk E0 Tryz.prog 268 [.str s,.str [46]] H (.int .i64 (cntB s 46)) H:=by
 refine κw tOk fe268.ok rfl ?_
 repeat' first | refine κn ?_ | refine κc (cntO s _) ?_ | refine κt ?_ | refine κg ?_ | refine κa ?_ | refine κf ?_ | fail
 all_goals rfl
def partsC (l:List Bs):List (List PV):=l.map fun x=>[.str x]
theorem frzLL_parts:∀ l:List Bs,frzLL (partsC l)=some (partsC l)
 | []=>rfl
 | x :: l => by
   have:=frzLL_parts l
   unfold partsC at this ⊢
   simp only [List.map_cons,frzLL,frzL,frz1,this]
theorem own_out (H:Heap) (l:List Bs) (k:Nat) (hk:k=l.length) (hH:nth H.bx 0=some (.cells 1 (partsC l))):frz3 0 H (.own 0 1 0 k)=some (.sl .none 1 (partsC l)):=by
 have hl:(partsC l).length=k:=by simp [partsC,hk]
 have h1:((partsC l).drop 0).take k=partsC l:=by rw [List.drop_zero, ← hl,List.take_length]
 show frzC 0 H (.own 0 1 0 k)=_
 simp only [frzC,Nat.not_lt_zero,if_false,hH,true_and,Nat.zero_add,hl,Nat.le_refl,if_true,h1,frzLL_parts]
theorem set_at {pre:List (List PV)} {x y:List PV} {r:List (List PV)} {i:Nat} (hi:i=pre.length):(pre ++ x :: r).set i y=pre ++ y :: r:=by
 subst hi
 simp
theorem c236 {s:Bs} (hs:s.length≤100000):∀ H,CallOk E0 Tryz.prog 236 [.str s,.str [46],.int .i64 0,.int .i64 (-1)] H (.sl .none 1 (partsC (splitD s))) H:=by
 have hfr:frz3 0 hNil (.sl .none 1 (partsC (splitD s)))=some (.sl .none 1 (partsC (splitD s))):=rfl
 refine callOk_wp (own:=E0.own 236) tOk fe236.ok rfl hfr ?_
 have hc0:=c268 s
 rw [cntB_nat] at hc0
 have hN:=cntN_le s
 obtain ⟨N,hNe⟩:∃ N,N=cntN s:=⟨_,rfl⟩
 rw [← hNe] at hc0 hN
 have hmin:aMinL [.int .i64 (IntKind.i64.wrap (Int.ofNat s.length+1))] (.int .i64 (IntKind.i64.wrap ((N:Int)+1)))=some (.int .i64 ((N+1:Nat):Int)):=by
  have e1:IntKind.i64.wrap (Int.ofNat s.length+1)=((s.length+1:Nat):Int):=wrap_nat (n:=s.length+1) (by omega)
  have e2:IntKind.i64.wrap ((N:Int)+1)=((N+1:Nat):Int):=wrap_nat (n:=N+1) (by omega)
  rw [e1,e2]
  simp only [aMinL]
  rw [if_neg (by omega)]
 have hmk:aMakeSlice E0 47 (.int .i64 ((N+1:Nat):Int)) (.int .i64 ((N+1:Nat):Int)) hNil=some (.own 0 1 0 (N+1),⟨[.cells 1 (List.replicate (N+1) [.str []])],0,[],0⟩):=by
  have e22:E0.T 47=some ⟨.slice 9,1,24,.nils⟩:=by kernel_rfl
  have e9:E0.T 9=some ⟨.string,1,16,.str []⟩:=by kernel_rfl
  have en:nat? (.int .i64 ((N+1:Nat):Int))=some (N+1):=rfl
  simp only [aMakeSlice,e22,e9,en]
  rw [if_pos ⟨rfl,by decide,by omega,by omega⟩]
  simp [Heap.push,hNil,PV.cells]
 refine Wp.seq ?_
 repeat' first | refine κn ?_ | refine κc (hc0 _) ?_ | (apply qMk;rfl;rfl;rfl;rfl;rfl;assumption) | (apply RegQ.rMin;rfl;rfl;rfl;rfl;assumption) | refine κt ?_ | refine κg ?_ | refine κa ?_ | fail
 have e22:E0.T 47=some ⟨.slice 9,1,24,.nils⟩:=by kernel_rfl
 have e9:E0.T 9=some ⟨.string,1,16,.str []⟩:=by kernel_rfl
 have hia:∀ i:Nat,i < N+1→aIndexAddr E0 47 (.own 0 1 0 (N+1)) (.int .i64 (i:Int))=some (.ptr 0 1 (0+i) 0):=fun i hi=>by
  have en:nat? (.int .i64 (i:Int))=some i:=rfl
  simp only [aIndexAddr,e22,en,e9,if_true]
  rw [if_pos hi]
 have hwrG:∀ (pre:List Bs) (x:Bs) (r:List (List PV)),Heap.wr ⟨[.cells 1 (partsC pre ++ [.str []] :: r)],0,[],0⟩ (.ptr 0 1 (0+pre.length) 0) [.str x]=some ⟨[.cells 1 (partsC (pre ++ [x]) ++ r)],0,[],0⟩:=fun pre x r=>by
  have hl:(partsC pre).length=pre.length:=by simp [partsC]
  have hn:nth (partsC pre ++ [PV.str []] :: r) (0+pre.length)=some [.str []]:=by
   rw [nth_eq,Nat.zero_add, ← hl]
   simp
  have hs:(partsC pre ++ [PV.str []] :: r).set (0+pre.length) [.str x]=partsC (pre ++ [x]) ++ r:=by
   rw [set_at (by rw [hl,Nat.zero_add])]
   simp [partsC]
  have h0:nth [Box.cells 1 (partsC pre ++ [PV.str []] :: r)] 0=some (.cells 1 (partsC pre ++ [PV.str []] :: r)):=rfl
  rw [Nat.zero_add] at hs hn
  simp only [Heap.wr,h0,if_true,Nat.zero_add,hn,List.length_cons,List.length_nil,Nat.le_refl,List.take_zero,List.nil_append,List.drop_one,List.tail_cons]
  simp only [Heap.put,Nat.not_lt_zero,if_false,List.append_nil,hs,List.set_cons_zero]
 refine Wp.while (fun m tm H => ∃ (i : Nat) (rest : Bs) (pre : List Bs) (base : TM), i + m = N ∧ pre.length = i ∧ splitD s = pre ++ splitD rest ∧ cntN rest = m ∧ rest.length ≤ 100000 ∧
   tm=ovr base [(0,.str rest),(1,.str [46]),(2,.int .i64 0),(3,.int .i64 (N:Int)),(9,.own 0 1 0 (N+1)),(10,.int .i64 (i:Int))]∧H=⟨[.cells 1 (partsC pre ++ List.replicate (m+1) [.str []])],0,[],0⟩)
  (fun m tm H hI => ?_) N _ _ ⟨0, s, [], _, by omega, rfl, by simp, hNe.symm, hs, ovr_mk ⟨rfl, rfl, rfl, int_eq (by
    have e:((N+1:Nat):Int) - 1=(N:Int):=by omega
    show IntKind.i64.wrap (((N+1:Nat):Int) - 1)=_
    rw [e]
    exact wrap_nat (by omega)),rfl,rfl,trivial⟩,rfl⟩
 obtain ⟨i,rest,pre,base,hi,hpl,hsp,hcn,hrl,rfl,rfl⟩:=hI
 clear hmin hmk hc0
 have hc1:=c197 rest
 have hia1:=hia i (by omega)
 cases m with
 | zero =>
   have hio:i=N:=by omega
   subst hio
   rcases idx_cases rest with ⟨q1,q2,q3⟩ | ⟨a,b,q1,q2,q3,q4⟩
   case inr=>rw [cntB_nat,cntB_nat,hcn] at q4;omega
   have hwr:Heap.wr ⟨[.cells 1 (partsC pre ++ List.replicate (0+1) [.str []])],0,[],0⟩ (.ptr 0 1 (0+i) 0) [.str rest]=some ⟨[.cells 1 (partsC (pre ++ [rest]))],0,[],0⟩:=by
    have:=hwrG pre rest []
    rw [hpl] at this
    simpa using this
   have h65:aSlice E0 47 (.own 0 1 0 (i+1)) none (some (.int .i64 (IntKind.i64.wrap ((i:Int)+1)))) none=some (.own 0 1 0 (i+1)):=by
    have ew:IntKind.i64.wrap ((i:Int)+1)=((i+1:Nat):Int):=wrap_nat (n:=i+1) (by omega)
    have en:nat? (.int .i64 ((i+1:Nat):Int))=some (i+1):=rfl
    rw [ew]
    simp only [aSlice,e22,e9,if_true,bound,en,Nat.le_refl,Nat.add_zero,Nat.sub_zero]
   repeat' first | refine κn ?_ | refine κS ?_ | refine κJ ?_ | refine κb ?_ ?_ | refine κg ?_ | refine κa ?_ | refine κf ?_ | intro hb
   all_goals first
    | (exfalso;simp at hb;done)
    | skip
   refine own_out _ _ _ ?_ ?_
   · rw [hsp,q3];simp [hpl]
   · rw [hsp,q3];rfl
 | succ m =>
   rcases idx_cases rest with ⟨q1,q2,q3⟩ | ⟨a,b,q1,q2,q3,q4⟩
   case inl=>rw [cntB_nat,hcn] at q2;omega
   rw [q2] at hc1
   have hal:a.length≤100000:=by rw [q1] at hrl;simp at hrl;omega
   have h48:aSlice E0 9 (.str rest) none (some (.int .i64 (IntKind.i64.wrap ((a.length:Int)+0)))) none=some (.str a):=by
    have ew:IntKind.i64.wrap ((a.length:Int)+0)=(a.length:Int):=by rw [Int.add_zero];exact wrap_nat (by omega)
    have en:nat? (.int .i64 (a.length:Int))=some a.length:=rfl
    rw [ew,q1]
    simp only [aSlice,e9,bound,en]
    rw [if_pos (by simp)]
    simp
   have h55:aSlice E0 9 (.str rest) (some (.int .i64 (IntKind.i64.wrap ((a.length:Int)+Int.ofNat [(46:UInt8)].length)))) none none=some (.str b):=by
    have ew:IntKind.i64.wrap ((a.length:Int)+Int.ofNat [(46:UInt8)].length)=((a.length+1:Nat):Int):=wrap_nat (n:=a.length+1) (by omega)
    have en:nat? (.int .i64 ((a.length+1:Nat):Int))=some (a.length+1):=rfl
    rw [ew,q1]
    simp only [aSlice,e9,bound,en]
    rw [if_pos (by simp),List.take_length]
    have e:a ++ 46 :: b=(a ++ [46]) ++ b:=by simp
    show some (PV.str (List.drop (a.length+1) (a ++ 46 :: b)))=some (.str b)
    rw [e,List.drop_left' (by simp)]
   have hwr:Heap.wr ⟨[.cells 1 (partsC pre ++ List.replicate (m+1+1) [.str []])],0,[],0⟩ (.ptr 0 1 (0+i) 0) [.str a]=some ⟨[.cells 1 (partsC (pre ++ [a]) ++ List.replicate (m+1) [.str []])],0,[],0⟩:=by
    have:=hwrG pre a (List.replicate (m+1) [.str []])
    rw [hpl] at this
    exact this
   repeat' first | refine κn ?_ | refine κc (hc1 _) ?_ | refine κS ?_ | refine κJ ?_ | refine κt ?_ | refine κb ?_ ?_ | refine κg ?_ | refine κa ?_ | intro hb
   all_goals first
    | (exfalso;simp at hb;omega)
    | skip
   refine LoopI.go m (by omega) ⟨i+1,b,pre ++ [a],_,by omega,by simp [hpl],by rw [hsp,q3];simp,?_,by rw [q1] at hrl;simp at hrl;omega,ovr_mk ⟨rfl,rfl,rfl,rfl,rfl,int_eq (wrap_nat (n:=i+1) (by omega)),trivial⟩,rfl⟩
   rw [cntB_nat,cntB_nat,hcn] at q4
   omega
end Go.Vm.Seat
