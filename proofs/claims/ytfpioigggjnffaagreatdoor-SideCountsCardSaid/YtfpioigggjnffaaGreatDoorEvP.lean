/- EvP. -/
import Derived.Test.YtfpioigggjnffaaGreatDoorEvL
import Derived.Test.YtfpioigggjnffaaGreatDoorEvSc
import Derived.Test.YtfpioigggjnffaaGreatDoorETi
set_option linter.unnecessarySimpa false
set_option linter.unusedSimpArgs false
set_option linter.unusedVariables false
set_option autoImplicit false
namespace Go.Proofs.YtfpioigggjnffaaGreatDoor.E
open Go.Ev
def keepTab:Map (List Nat):=[(7033,[1,7,8,10,13]),(7034,[1,7,8,10]),(7035,[6]),(7051,[1,7,8,10,15]),(7052,[7]),(7053,[6]),(8048,[7,11,12,14,15,17,18]),(8049,[7,11,12,14,15,17]),(8050,[6]),(9030,[1,5,8,11,12]),(9031,[5,8,11]),(9032,[4]),(9072,[1,5,8,11,12,13,14]),(9073,[1,5,8,11,12,13]),(9074,[4]),(22012,[0,5]),(22013,[]),(22014,[4]),(23027,[2,8,10,32,33,34]),(23028,[10]),(23029,[4,5]),(28012,[1,3]),(28013,[]),(28014,[2]),(29033,[6,10,12,62,63,64]),(29034,[6,10,12]),(29035,[6,7,8]),(29048,[6,10,12,77,78,79]),(29049,[6,10,12]),(29050,[6,7,8]),(30009,[1,2,3,4]),(30010,[2,3]),(30011,[2]),(34012,[0,1,5]),(34013,[]),(34014,[4]),(40015,[6,15,16,17]),(40016,[6]),(40017,[4,5]),(41006,[0,1,5]),(41007,[]),(41008,[4]),(44009,[1,3,7,8,9]),(44010,[1,3]),(44011,[2]),(47006,[0,5,6]),(47007,[]),(47008,[2]),(65006,[1,11,12,13]),(65007,[1]),(65008,[2]),(65027,[1,5,28,29,30]),(65028,[1,5]),(65029,[2]),(65042,[1,40,41,42]),(65043,[1]),(65044,[2]),(72009,[0,1,7,8]),(72010,[]),(72011,[4,5,6]),(73009,[0,1,7,10,11]),(73010,[7]),(73011,[6]),(74051,[0,1,5,107,108,109]),(74052,[0,1,5]),(74053,[]),(78015,[0,1,5,6]),(78016,[0,5]),(78017,[4]),(85030,[3,6,40,41,42]),(85031,[3,6]),(85032,[4,5]),(90015,[0,3,4,5]),(90016,[4]),(90017,[2]),(93012,[0,1,12,13]),(93013,[]),(93014,[4]),(101009,[0,4,12,13,14]),(101010,[0,4]),(101011,[]),(122024,[7,8]),(122025,[7]),(122026,[4]),(123009,[1,2,5,13,14,15]),(123010,[5]),(123011,[4]),(141006,[0,1,7,8]),(141007,[]),(141008,[4]),(144009,[1,2,4,5,6]),(144010,[1,2,4,5]),(144011,[]),(144024,[1,2,4]),(144025,[]),(144026,[]),(144030,[1,2,4,5,6]),(144031,[1,2,4,5]),(144032,[]),(149006,[1,5]),(149007,[1,5]),(149008,[4]),(150006,[1,5]),(150007,[1,5]),(150008,[4]),(156006,[0,1,7,8]),(156007,[]),(156008,[4]),(181018,[0,1,8,10,11]),(181019,[0,10]),(181020,[6,7]),(197006,[1,2,3,6]),(197007,[]),(197008,[]),(197015,[1,2,3,6,7]),(197016,[1,2,3,6]),(197017,[]),(198012,[1,4,8,9]),(198013,[1,4,8]),(198014,[]),(198030,[4,8,11]),(198031,[]),(198032,[]),(198048,[2,4,12,13]),(198049,[2,4,12]),(198050,[]),(198066,[4,12,15]),(198067,[]),(198068,[]),(198102,[1,2,3,4,16,17,18,19,20]),(198103,[1,2,3,4,16,17,18]),(198104,[]),(199006,[0,1,7,8]),(199007,[]),(199008,[4]),(200024,[4,11,12,13,14]),(200025,[]),(200026,[6,7,8,9,10]),(201006,[0,1,7,8]),(201007,[]),(201008,[4]),(213003,[0,1,3]),(213004,[]),(213005,[]),(220009,[0,3,9,10,11]),(220010,[0,3]),(220011,[2]),(220033,[6,25,26,27]),(220034,[6]),(220035,[2])]
def keeps (f k:Nat):List Nat:=match getM keepTab (f*1000+k) with
 |some l=>l
 |none=>[]
theorem kp7_33:keeps 7 33=[1,7,8,10,13]:=by kernel_rfl
theorem kp7_34:keeps 7 34=[1,7,8,10]:=by kernel_rfl
theorem kp7_35:keeps 7 35=[6]:=by kernel_rfl
theorem kp7_51:keeps 7 51=[1,7,8,10,15]:=by kernel_rfl
theorem kp7_52:keeps 7 52=[7]:=by kernel_rfl
theorem kp7_53:keeps 7 53=[6]:=by kernel_rfl
theorem kp8_48:keeps 8 48=[7,11,12,14,15,17,18]:=by kernel_rfl
theorem kp8_49:keeps 8 49=[7,11,12,14,15,17]:=by kernel_rfl
theorem kp8_50:keeps 8 50=[6]:=by kernel_rfl
theorem kp9_30:keeps 9 30=[1,5,8,11,12]:=by kernel_rfl
theorem kp9_31:keeps 9 31=[5,8,11]:=by kernel_rfl
theorem kp9_32:keeps 9 32=[4]:=by kernel_rfl
theorem kp9_72:keeps 9 72=[1,5,8,11,12,13,14]:=by kernel_rfl
theorem kp9_73:keeps 9 73=[1,5,8,11,12,13]:=by kernel_rfl
theorem kp9_74:keeps 9 74=[4]:=by kernel_rfl
theorem kp22_12:keeps 22 12=[0,5]:=by kernel_rfl
theorem kp22_13:keeps 22 13=[]:=by kernel_rfl
theorem kp22_14:keeps 22 14=[4]:=by kernel_rfl
theorem kp23_27:keeps 23 27=[2,8,10,32,33,34]:=by kernel_rfl
theorem kp23_28:keeps 23 28=[10]:=by kernel_rfl
theorem kp23_29:keeps 23 29=[4,5]:=by kernel_rfl
theorem kp28_12:keeps 28 12=[1,3]:=by kernel_rfl
theorem kp28_13:keeps 28 13=[]:=by kernel_rfl
theorem kp28_14:keeps 28 14=[2]:=by kernel_rfl
theorem kp29_33:keeps 29 33=[6,10,12,62,63,64]:=by kernel_rfl
theorem kp29_34:keeps 29 34=[6,10,12]:=by kernel_rfl
theorem kp29_35:keeps 29 35=[6,7,8]:=by kernel_rfl
theorem kp29_48:keeps 29 48=[6,10,12,77,78,79]:=by kernel_rfl
theorem kp29_49:keeps 29 49=[6,10,12]:=by kernel_rfl
theorem kp29_50:keeps 29 50=[6,7,8]:=by kernel_rfl
theorem kp30_9:keeps 30 9=[1,2,3,4]:=by kernel_rfl
theorem kp30_10:keeps 30 10=[2,3]:=by kernel_rfl
theorem kp30_11:keeps 30 11=[2]:=by kernel_rfl
theorem kp34_12:keeps 34 12=[0,1,5]:=by kernel_rfl
theorem kp34_13:keeps 34 13=[]:=by kernel_rfl
theorem kp34_14:keeps 34 14=[4]:=by kernel_rfl
theorem kp40_15:keeps 40 15=[6,15,16,17]:=by kernel_rfl
theorem kp40_16:keeps 40 16=[6]:=by kernel_rfl
theorem kp40_17:keeps 40 17=[4,5]:=by kernel_rfl
theorem kp41_6:keeps 41 6=[0,1,5]:=by kernel_rfl
theorem kp41_7:keeps 41 7=[]:=by kernel_rfl
theorem kp41_8:keeps 41 8=[4]:=by kernel_rfl
theorem kp44_9:keeps 44 9=[1,3,7,8,9]:=by kernel_rfl
theorem kp44_10:keeps 44 10=[1,3]:=by kernel_rfl
theorem kp44_11:keeps 44 11=[2]:=by kernel_rfl
theorem kp47_6:keeps 47 6=[0,5,6]:=by kernel_rfl
theorem kp47_7:keeps 47 7=[]:=by kernel_rfl
theorem kp47_8:keeps 47 8=[2]:=by kernel_rfl
theorem kp65_6:keeps 65 6=[1,11,12,13]:=by kernel_rfl
theorem kp65_7:keeps 65 7=[1]:=by kernel_rfl
theorem kp65_8:keeps 65 8=[2]:=by kernel_rfl
theorem kp65_27:keeps 65 27=[1,5,28,29,30]:=by kernel_rfl
theorem kp65_28:keeps 65 28=[1,5]:=by kernel_rfl
theorem kp65_29:keeps 65 29=[2]:=by kernel_rfl
theorem kp65_42:keeps 65 42=[1,40,41,42]:=by kernel_rfl
theorem kp65_43:keeps 65 43=[1]:=by kernel_rfl
theorem kp65_44:keeps 65 44=[2]:=by kernel_rfl
theorem kp72_9:keeps 72 9=[0,1,7,8]:=by kernel_rfl
theorem kp72_10:keeps 72 10=[]:=by kernel_rfl
theorem kp72_11:keeps 72 11=[4,5,6]:=by kernel_rfl
theorem kp73_9:keeps 73 9=[0,1,7,10,11]:=by kernel_rfl
theorem kp73_10:keeps 73 10=[7]:=by kernel_rfl
theorem kp73_11:keeps 73 11=[6]:=by kernel_rfl
theorem kp74_51:keeps 74 51=[0,1,5,107,108,109]:=by kernel_rfl
theorem kp74_52:keeps 74 52=[0,1,5]:=by kernel_rfl
theorem kp74_53:keeps 74 53=[]:=by kernel_rfl
theorem kp78_15:keeps 78 15=[0,1,5,6]:=by kernel_rfl
theorem kp78_16:keeps 78 16=[0,5]:=by kernel_rfl
theorem kp78_17:keeps 78 17=[4]:=by kernel_rfl
theorem kp85_30:keeps 85 30=[3,6,40,41,42]:=by kernel_rfl
theorem kp85_31:keeps 85 31=[3,6]:=by kernel_rfl
theorem kp85_32:keeps 85 32=[4,5]:=by kernel_rfl
theorem kp90_15:keeps 90 15=[0,3,4,5]:=by kernel_rfl
theorem kp90_16:keeps 90 16=[4]:=by kernel_rfl
theorem kp90_17:keeps 90 17=[2]:=by kernel_rfl
theorem kp93_12:keeps 93 12=[0,1,12,13]:=by kernel_rfl
theorem kp93_13:keeps 93 13=[]:=by kernel_rfl
theorem kp93_14:keeps 93 14=[4]:=by kernel_rfl
theorem kp101_9:keeps 101 9=[0,4,12,13,14]:=by kernel_rfl
theorem kp101_10:keeps 101 10=[0,4]:=by kernel_rfl
theorem kp101_11:keeps 101 11=[]:=by kernel_rfl
theorem kp122_24:keeps 122 24=[7,8]:=by kernel_rfl
theorem kp122_25:keeps 122 25=[7]:=by kernel_rfl
theorem kp122_26:keeps 122 26=[4]:=by kernel_rfl
theorem kp123_9:keeps 123 9=[1,2,5,13,14,15]:=by kernel_rfl
theorem kp123_10:keeps 123 10=[5]:=by kernel_rfl
theorem kp123_11:keeps 123 11=[4]:=by kernel_rfl
theorem kp141_6:keeps 141 6=[0,1,7,8]:=by kernel_rfl
theorem kp141_7:keeps 141 7=[]:=by kernel_rfl
theorem kp141_8:keeps 141 8=[4]:=by kernel_rfl
theorem kp144_9:keeps 144 9=[1,2,4,5,6]:=by kernel_rfl
theorem kp144_10:keeps 144 10=[1,2,4,5]:=by kernel_rfl
theorem kp144_11:keeps 144 11=[]:=by kernel_rfl
theorem kp144_24:keeps 144 24=[1,2,4]:=by kernel_rfl
theorem kp144_25:keeps 144 25=[]:=by kernel_rfl
theorem kp144_26:keeps 144 26=[]:=by kernel_rfl
theorem kp144_30:keeps 144 30=[1,2,4,5,6]:=by kernel_rfl
theorem kp144_31:keeps 144 31=[1,2,4,5]:=by kernel_rfl
theorem kp144_32:keeps 144 32=[]:=by kernel_rfl
theorem kp149_6:keeps 149 6=[1,5]:=by kernel_rfl
theorem kp149_7:keeps 149 7=[1,5]:=by kernel_rfl
theorem kp149_8:keeps 149 8=[4]:=by kernel_rfl
theorem kp150_6:keeps 150 6=[1,5]:=by kernel_rfl
theorem kp150_7:keeps 150 7=[1,5]:=by kernel_rfl
theorem kp150_8:keeps 150 8=[4]:=by kernel_rfl
theorem kp156_6:keeps 156 6=[0,1,7,8]:=by kernel_rfl
theorem kp156_7:keeps 156 7=[]:=by kernel_rfl
theorem kp156_8:keeps 156 8=[4]:=by kernel_rfl
theorem kp181_18:keeps 181 18=[0,1,8,10,11]:=by kernel_rfl
theorem kp181_19:keeps 181 19=[0,10]:=by kernel_rfl
theorem kp181_20:keeps 181 20=[6,7]:=by kernel_rfl
theorem kp197_6:keeps 197 6=[1,2,3,6]:=by kernel_rfl
theorem kp197_7:keeps 197 7=[]:=by kernel_rfl
theorem kp197_8:keeps 197 8=[]:=by kernel_rfl
theorem kp197_15:keeps 197 15=[1,2,3,6,7]:=by kernel_rfl
theorem kp197_16:keeps 197 16=[1,2,3,6]:=by kernel_rfl
theorem kp197_17:keeps 197 17=[]:=by kernel_rfl
theorem kp198_12:keeps 198 12=[1,4,8,9]:=by kernel_rfl
theorem kp198_13:keeps 198 13=[1,4,8]:=by kernel_rfl
theorem kp198_14:keeps 198 14=[]:=by kernel_rfl
theorem kp198_30:keeps 198 30=[4,8,11]:=by kernel_rfl
theorem kp198_31:keeps 198 31=[]:=by kernel_rfl
theorem kp198_32:keeps 198 32=[]:=by kernel_rfl
theorem kp198_48:keeps 198 48=[2,4,12,13]:=by kernel_rfl
theorem kp198_49:keeps 198 49=[2,4,12]:=by kernel_rfl
theorem kp198_50:keeps 198 50=[]:=by kernel_rfl
theorem kp198_66:keeps 198 66=[4,12,15]:=by kernel_rfl
theorem kp198_67:keeps 198 67=[]:=by kernel_rfl
theorem kp198_68:keeps 198 68=[]:=by kernel_rfl
theorem kp198_102:keeps 198 102=[1,2,3,4,16,17,18,19,20]:=by kernel_rfl
theorem kp198_103:keeps 198 103=[1,2,3,4,16,17,18]:=by kernel_rfl
theorem kp198_104:keeps 198 104=[]:=by kernel_rfl
theorem kp199_6:keeps 199 6=[0,1,7,8]:=by kernel_rfl
theorem kp199_7:keeps 199 7=[]:=by kernel_rfl
theorem kp199_8:keeps 199 8=[4]:=by kernel_rfl
theorem kp200_24:keeps 200 24=[4,11,12,13,14]:=by kernel_rfl
theorem kp200_25:keeps 200 25=[]:=by kernel_rfl
theorem kp200_26:keeps 200 26=[6,7,8,9,10]:=by kernel_rfl
theorem kp201_6:keeps 201 6=[0,1,7,8]:=by kernel_rfl
theorem kp201_7:keeps 201 7=[]:=by kernel_rfl
theorem kp201_8:keeps 201 8=[4]:=by kernel_rfl
theorem kp213_3:keeps 213 3=[0,1,3]:=by kernel_rfl
theorem kp213_4:keeps 213 4=[]:=by kernel_rfl
theorem kp213_5:keeps 213 5=[]:=by kernel_rfl
theorem kp220_9:keeps 220 9=[0,3,9,10,11]:=by kernel_rfl
theorem kp220_10:keeps 220 10=[0,3]:=by kernel_rfl
theorem kp220_11:keeps 220 11=[2]:=by kernel_rfl
theorem kp220_33:keeps 220 33=[6,25,26,27]:=by kernel_rfl
theorem kp220_34:keeps 220 34=[6]:=by kernel_rfl
theorem kp220_35:keeps 220 35=[2]:=by kernel_rfl
def tab0:List D:=[.int .i64 0, .int .i64 1, .int .i64 1, .int .i64 2, .int .i64 4, .int .i64 2, .int .i64 5, .int .i64 5, .int .i64 1, .int .i64 11, .int .i64 11, .int .i64 1, .int .i64 12, .int .i64 13, .int .i64 3, .int .i64 14, .int .i64 14, .int .i64 4, .int .i64 15, .int .i64 15, .int .i64 1, .int .i64 16, .int .i64 16, .int .i64 3, .int .i64 17, .int .i64 17, .int .i64 5, .int .i64 26, .int .i64 27, .int .i64 1, .int .i64 32, .int .i64 36, .int .i64 3, .int .i64 40, .int .i64 41, .int .i64 6, .int .i64 44, .int .i64 55, .int .i64 6, .int .i64 58, .int .i64 62, .int .i64 6, .int .i64 63, .int .i64 64, .int .i64 7, .int .i64 65, .int .i64 65, .int .i64 8, .int .i64 66, .int .i64 66, .int .i64 9, .int .i64 69, .int .i64 90, .int .i64 1, .int .i64 103, .int .i64 138, .int .i64 1, .int .i64 167, .int .i64 167, .int .i64 1, .int .i64 172, .int .i64 173, .int .i64 1]
def tab1:List D:=[.int .u8 127, .int .i64 4, .bool false, .bool false, .int .u8 126, .int .i64 8, .bool false, .bool false, .int .u8 0, .int .i64 0, .bool false, .bool false, .int .u8 0, .int .i64 0, .bool false, .bool false, .int .u8 127, .int .i64 1, .bool true, .bool false, .int .u8 127, .int .i64 1, .bool false, .bool false, .int .u8 127, .int .i64 2, .bool true, .bool false, .int .u8 127, .int .i64 2, .bool false, .bool false, .int .u8 126, .int .i64 1, .bool true, .bool false, .int .u8 126, .int .i64 1, .bool false, .bool false, .int .u8 126, .int .i64 2, .bool true, .bool false, .int .u8 126, .int .i64 2, .bool false, .bool false, .int .u8 126, .int .i64 4, .bool true, .bool false, .int .u8 126, .int .i64 4, .bool false, .bool false, .int .u8 127, .int .i64 4, .bool false, .bool true, .int .u8 126, .int .i64 8, .bool false, .bool true, .int .u8 0, .int .i64 0, .bool false, .bool false, .int .u8 0, .int .i64 0, .bool false, .bool false, .int .u8 127, .int .i64 1, .bool false, .bool true, .int .u8 127, .int .i64 2, .bool false, .bool true, .int .u8 126, .int .i64 1, .bool false, .bool true, .int .u8 126, .int .i64 2, .bool false, .bool true, .int .u8 126, .int .i64 4, .bool false, .bool true]
theorem eqo80:eqOk Tryz.prog 80 4=true:=by kernel_rfl
theorem fd114_2:fieldT Tryz.prog 114 2=some (3,2):=by kernel_rfl
def liveTab:Nat→Map (List Nat)
 |7=>[(2,[1,2,3,7,32]),(5,[1,2,3,7,8,48]),(8,[1,7,8,10,97]),(14,[1,7,8,10,13,138]),(20,[1,7,8,10,15,183])]
 |8=>[(2,[1,2,3,7,34]),(10,[2,7,11,12,13,14,15,87]),(20,[7,11,12,14,15,17,18,139]),(22,[6])]
 |9=>[(2,[1,2,5,27]),(6,[1,2,5,7,8,47]),(7,[4]),(27,[1,5,8,11,12,13,14,127]),(33,[4])]
 |14=>[(1,[3,4,5,6,16])]
 |18=>[(1,[1,2,4,14])]
 |28=>[(1,[1,31]),(6,[1,3,56])]
 |32=>[(2,[2,6,8,21])]
 |42=>[(1,[0,1,4,16])]
 |43=>[(1,[4])]
 |44=>[(5,[1,5,7,8,9,22]),(9,[2])]
 |45=>[(4,[1,3,4,30]),(11,[2]),(16,[2]),(20,[2])]
 |47=>[(4,[0,4,5,6,18])]
 |62=>[(1,[1,2,4,14])]
 |65=>[(16,[1,40,41,42,51])]
 |66=>[(1,[1,2,3,6,16])]
 |72=>[(7,[0,1,7,8,9,38]),(12,[0,1,7,8,9,54])]
 |83=>[(3,[2])]
 |86=>[(1,[0,19])]
 |87=>[(0,[0,2,14])]
 |88=>[(2,[3])]
 |90=>[(5,[0,3,4,5,21])]
 |94=>[(1,[2])]
 |96=>[(1,[2])]
 |102=>[(2,[0,4])]
 |103=>[(3,[0,4,7])]
 |122=>[(4,[0,6,26])]
 |125=>[(2,[2])]
 |133=>[(5,[0,1,3,6,9,11,34]),(13,[0,1,9,11,12,82])]
 |150=>[(2,[1,5,13])]
 |151=>[(4,[9,12,38])]
 |152=>[(6,[9,10,11,12,49]),(8,[9,10,12,56])]
 |153=>[(1,[2])]
 |155=>[(1,[2])]
 |162=>[(0,[0,2,14])]
 |163=>[(6,[8])]
 |164=>[(4,[0,4,23])]
 |166=>[(1,[0,12])]
 |167=>[(2,[0]),(7,[0,6])]
 |169=>[(2,[0,2,3])]
 |170=>[(19,[41])]
 |176=>[(1,[2])]
 |181=>[(2,[0,1,2,8,32]),(8,[0,1,8,10,11,40])]
 |197=>[(5,[1,2,3,6,7,26])]
 |198=>[(40,[1,2,3,4,16,18,22,145]),(42,[1,3,4,16,18,22,158]),(44,[3,4,16,22,171])]
 |200=>[(1,[0,2,4,32])]
 |203=>[(1,[1,2,4,14])]
 |204=>[(3,[1,2,11])]
 |206=>[(1,[1,2,4,13])]
 |210=>[(1,[6])]
 |_=>[]
def lives (f k:Nat):List Nat:=match getM (liveTab f) k with
 |some l=>l
 |none=>[]
theorem lv7:liveTab 7=[(2,[1,2,3,7,32]),(5,[1,2,3,7,8,48]),(8,[1,7,8,10,97]),(14,[1,7,8,10,13,138]),(20,[1,7,8,10,15,183])]:=rfl
theorem lv8:liveTab 8=[(2,[1,2,3,7,34]),(10,[2,7,11,12,13,14,15,87]),(20,[7,11,12,14,15,17,18,139]),(22,[6])]:=rfl
theorem lv9:liveTab 9=[(2,[1,2,5,27]),(6,[1,2,5,7,8,47]),(7,[4]),(27,[1,5,8,11,12,13,14,127]),(33,[4])]:=rfl
theorem lv14:liveTab 14=[(1,[3,4,5,6,16])]:=rfl
theorem lv18:liveTab 18=[(1,[1,2,4,14])]:=rfl
theorem lv22:liveTab 22=[]:=rfl
theorem lv23:liveTab 23=[]:=rfl
theorem lv25:liveTab 25=[]:=rfl
theorem lv28:liveTab 28=[(1,[1,31]),(6,[1,3,56])]:=rfl
theorem lv29:liveTab 29=[]:=rfl
theorem lv30:liveTab 30=[]:=rfl
theorem lv32:liveTab 32=[(2,[2,6,8,21])]:=rfl
theorem lv34:liveTab 34=[]:=rfl
theorem lv37:liveTab 37=[]:=rfl
theorem lv40:liveTab 40=[]:=rfl
theorem lv41:liveTab 41=[]:=rfl
theorem lv42:liveTab 42=[(1,[0,1,4,16])]:=rfl
theorem lv43:liveTab 43=[(1,[4])]:=rfl
theorem lv44:liveTab 44=[(5,[1,5,7,8,9,22]),(9,[2])]:=rfl
theorem lv45:liveTab 45=[(4,[1,3,4,30]),(11,[2]),(16,[2]),(20,[2])]:=rfl
theorem lv46:liveTab 46=[]:=rfl
theorem lv47:liveTab 47=[(4,[0,4,5,6,18])]:=rfl
theorem lv52:liveTab 52=[]:=rfl
theorem lv62:liveTab 62=[(1,[1,2,4,14])]:=rfl
theorem lv64:liveTab 64=[]:=rfl
theorem lv65:liveTab 65=[(16,[1,40,41,42,51])]:=rfl
theorem lv66:liveTab 66=[(1,[1,2,3,6,16])]:=rfl
theorem lv70:liveTab 70=[]:=rfl
theorem lv72:liveTab 72=[(7,[0,1,7,8,9,38]),(12,[0,1,7,8,9,54])]:=rfl
theorem lv73:liveTab 73=[]:=rfl
theorem lv74:liveTab 74=[]:=rfl
theorem lv78:liveTab 78=[]:=rfl
theorem lv79:liveTab 79=[]:=rfl
theorem lv80:liveTab 80=[]:=rfl
theorem lv81:liveTab 81=[]:=rfl
theorem lv82:liveTab 82=[]:=rfl
theorem lv83:liveTab 83=[(3,[2])]:=rfl
theorem lv84:liveTab 84=[]:=rfl
theorem lv85:liveTab 85=[]:=rfl
theorem lv86:liveTab 86=[(1,[0,19])]:=rfl
theorem lv87:liveTab 87=[(0,[0,2,14])]:=rfl
theorem lv88:liveTab 88=[(2,[3])]:=rfl
theorem lv89:liveTab 89=[]:=rfl
theorem lv90:liveTab 90=[(5,[0,3,4,5,21])]:=rfl
theorem lv91:liveTab 91=[]:=rfl
theorem lv92:liveTab 92=[]:=rfl
theorem lv93:liveTab 93=[]:=rfl
theorem lv94:liveTab 94=[(1,[2])]:=rfl
theorem lv95:liveTab 95=[]:=rfl
theorem lv96:liveTab 96=[(1,[2])]:=rfl
theorem lv97:liveTab 97=[]:=rfl
theorem lv98:liveTab 98=[]:=rfl
theorem lv99:liveTab 99=[]:=rfl
theorem lv100:liveTab 100=[]:=rfl
theorem lv101:liveTab 101=[]:=rfl
theorem lv102:liveTab 102=[(2,[0,4])]:=rfl
theorem lv103:liveTab 103=[(3,[0,4,7])]:=rfl
theorem lv104:liveTab 104=[]:=rfl
theorem lv105:liveTab 105=[]:=rfl
theorem lv106:liveTab 106=[]:=rfl
theorem lv107:liveTab 107=[]:=rfl
theorem lv122:liveTab 122=[(4,[0,6,26])]:=rfl
theorem lv123:liveTab 123=[]:=rfl
theorem lv124:liveTab 124=[]:=rfl
theorem lv125:liveTab 125=[(2,[2])]:=rfl
theorem lv126:liveTab 126=[]:=rfl
theorem lv131:liveTab 131=[]:=rfl
theorem lv132:liveTab 132=[]:=rfl
theorem lv133:liveTab 133=[(5,[0,1,3,6,9,11,34]),(13,[0,1,9,11,12,82])]:=rfl
theorem lv134:liveTab 134=[]:=rfl
theorem lv135:liveTab 135=[]:=rfl
theorem lv136:liveTab 136=[]:=rfl
theorem lv137:liveTab 137=[]:=rfl
theorem lv141:liveTab 141=[]:=rfl
theorem lv142:liveTab 142=[]:=rfl
theorem lv143:liveTab 143=[]:=rfl
theorem lv144:liveTab 144=[]:=rfl
theorem lv145:liveTab 145=[]:=rfl
theorem lv146:liveTab 146=[]:=rfl
theorem lv147:liveTab 147=[]:=rfl
theorem lv148:liveTab 148=[]:=rfl
theorem lv149:liveTab 149=[]:=rfl
theorem lv150:liveTab 150=[(2,[1,5,13])]:=rfl
theorem lv151:liveTab 151=[(4,[9,12,38])]:=rfl
theorem lv152:liveTab 152=[(6,[9,10,11,12,49]),(8,[9,10,12,56])]:=rfl
theorem lv153:liveTab 153=[(1,[2])]:=rfl
theorem lv154:liveTab 154=[]:=rfl
theorem lv155:liveTab 155=[(1,[2])]:=rfl
theorem lv156:liveTab 156=[]:=rfl
theorem lv157:liveTab 157=[]:=rfl
theorem lv158:liveTab 158=[]:=rfl
theorem lv159:liveTab 159=[]:=rfl
theorem lv160:liveTab 160=[]:=rfl
theorem lv161:liveTab 161=[]:=rfl
theorem lv162:liveTab 162=[(0,[0,2,14])]:=rfl
theorem lv163:liveTab 163=[(6,[8])]:=rfl
theorem lv164:liveTab 164=[(4,[0,4,23])]:=rfl
theorem lv165:liveTab 165=[]:=rfl
theorem lv166:liveTab 166=[(1,[0,12])]:=rfl
theorem lv167:liveTab 167=[(2,[0]),(7,[0,6])]:=rfl
theorem lv168:liveTab 168=[]:=rfl
theorem lv169:liveTab 169=[(2,[0,2,3])]:=rfl
theorem lv170:liveTab 170=[(19,[41])]:=rfl
theorem lv173:liveTab 173=[]:=rfl
theorem lv174:liveTab 174=[]:=rfl
theorem lv175:liveTab 175=[]:=rfl
theorem lv176:liveTab 176=[(1,[2])]:=rfl
theorem lv178:liveTab 178=[]:=rfl
theorem lv179:liveTab 179=[]:=rfl
theorem lv180:liveTab 180=[]:=rfl
theorem lv181:liveTab 181=[(2,[0,1,2,8,32]),(8,[0,1,8,10,11,40])]:=rfl
theorem lv197:liveTab 197=[(5,[1,2,3,6,7,26])]:=rfl
theorem lv198:liveTab 198=[(40,[1,2,3,4,16,18,22,145]),(42,[1,3,4,16,18,22,158]),(44,[3,4,16,22,171])]:=rfl
theorem lv199:liveTab 199=[]:=rfl
theorem lv200:liveTab 200=[(1,[0,2,4,32])]:=rfl
theorem lv201:liveTab 201=[]:=rfl
theorem lv202:liveTab 202=[]:=rfl
theorem lv203:liveTab 203=[(1,[1,2,4,14])]:=rfl
theorem lv204:liveTab 204=[(3,[1,2,11])]:=rfl
theorem lv205:liveTab 205=[]:=rfl
theorem lv206:liveTab 206=[(1,[1,2,4,13])]:=rfl
theorem lv207:liveTab 207=[]:=rfl
theorem lv208:liveTab 208=[]:=rfl
theorem lv209:liveTab 209=[]:=rfl
theorem lv210:liveTab 210=[(1,[6])]:=rfl
theorem lv212:liveTab 212=[]:=rfl
theorem lv213:liveTab 213=[]:=rfl
theorem lv219:liveTab 219=[]:=rfl
theorem lv220:liveTab 220=[]:=rfl
theorem lv223:liveTab 223=[]:=rfl
theorem lv224:liveTab 224=[]:=rfl
def globs:Nat→Option (List D)
 |0=>some tab0
 |1=>some tab1
 |_=>none
def owns:Nat→Bool
 |224=>true
 |52=>true
 |78=>true
 |141=>true
 |_=>false
noncomputable def G0 (fuel:Nat):Cfg:=⟨Tryz.prog,fuel,keeps,globs,owns,fun _=>none,lives⟩
theorem G0P (fu:Nat):(G0 fu).P=Tryz.prog:=rfl
theorem G0fuel (fu:Nat):(G0 fu).fuel=fu:=rfl
theorem G0keep (fu f:Nat):(G0 fu).keep f=keeps f:=rfl
theorem G0own (fu f:Nat):(G0 fu).own f=owns f:=rfl
theorem G0glob (fu:Nat):(G0 fu).glob=globs:=rfl
theorem G0live (fu f:Nat):(G0 fu).live f=lives f:=rfl
theorem G0ext (fu f:Nat):(G0 fu).ext f=none:=rfl
noncomputable def exts (fu:Nat) (f:Nat):Option (List V→List Go.Ev.Obj→Option Res):=if f=79 then some (cloneX (G0 fu) 79 4) else if f=84 then some (cloneX (G0 fu) 84 1) else if f=126 then some (cloneX (G0 fu) 126 4) else if f=132 then some (rangeX (G0 fu) (evF (G0 fu) 4) 213 132) else if f=37 then some (orderX) else none
def isExt (f:Nat):Bool:=f==79||f==84||f==126||f==132||f==37||false
theorem exts_no (fu:Nat) {f:Nat} (h:isExt f=false):exts fu f=none:=by
 simp only[isExt,Bool.or_eq_false_iff,beq_eq_false_iff_ne,ne_eq] at h
 simp[exts,h]
theorem exts_79 (fu:Nat):exts fu 79=some (cloneX (G0 fu) 79 4):=by simp[exts]
theorem exts_84 (fu:Nat):exts fu 84=some (cloneX (G0 fu) 84 1):=by simp[exts]
theorem exts_126 (fu:Nat):exts fu 126=some (cloneX (G0 fu) 126 4):=by simp[exts]
theorem exts_132 (fu:Nat):exts fu 132=some (rangeX (G0 fu) (evF (G0 fu) 4) 213 132):=by simp[exts]
theorem exts_37 (fu:Nat):exts fu 37=some (orderX):=by simp[exts]
noncomputable def G (fuel:Nat):Cfg:=⟨Tryz.prog,fuel,keeps,globs,owns,exts fuel,lives⟩
theorem GP (fu:Nat):(G fu).P=Tryz.prog:=rfl
theorem Gext (fu:Nat) (f:Nat):(G fu).ext f=exts fu f:=rfl
theorem Gfuel (fu:Nat):(G fu).fuel=fu:=rfl
theorem Gkeep (fu f:Nat):(G fu).keep f=keeps f:=rfl
theorem Gown (fu f:Nat):(G fu).own f=owns f:=rfl
theorem Gglob (fu:Nat):(G fu).glob=globs:=rfl
theorem Glive (fu f:Nat):(G fu).live f=lives f:=rfl
attribute [go_sem] lives Glive G0live G0ext GP Gext Gfuel Gkeep Gown Gglob G0P G0fuel G0keep G0own G0glob owns globs kp7_33 kp7_34 kp7_35 kp7_51 kp7_52 kp7_53 kp8_48 kp8_49 kp8_50 kp9_30 kp9_31 kp9_32 kp9_72 kp9_73 kp9_74 kp22_12 kp22_13 kp22_14 kp23_27 kp23_28 kp23_29 kp28_12 kp28_13 kp28_14 kp29_33 kp29_34 kp29_35 kp29_48 kp29_49 kp29_50 kp30_9 kp30_10 kp30_11 kp34_12 kp34_13 kp34_14 kp40_15 kp40_16 kp40_17 kp41_6 kp41_7 kp41_8 kp44_9 kp44_10 kp44_11 kp47_6 kp47_7 kp47_8 kp65_6 kp65_7 kp65_8 kp65_27 kp65_28 kp65_29 kp65_42 kp65_43 kp65_44 kp72_9 kp72_10 kp72_11 kp73_9 kp73_10 kp73_11 kp74_51 kp74_52 kp74_53 kp78_15 kp78_16 kp78_17 kp85_30 kp85_31 kp85_32 kp90_15 kp90_16 kp90_17 kp93_12 kp93_13 kp93_14 kp101_9 kp101_10 kp101_11 kp122_24 kp122_25 kp122_26 kp123_9 kp123_10 kp123_11 kp141_6 kp141_7 kp141_8 kp144_9 kp144_10 kp144_11 kp144_24 kp144_25 kp144_26 kp144_30 kp144_31 kp144_32 kp149_6 kp149_7 kp149_8 kp150_6 kp150_7 kp150_8 kp156_6 kp156_7 kp156_8 kp181_18 kp181_19 kp181_20 kp197_6 kp197_7 kp197_8 kp197_15 kp197_16 kp197_17 kp198_12 kp198_13 kp198_14 kp198_30 kp198_31 kp198_32 kp198_48 kp198_49 kp198_50 kp198_66 kp198_67 kp198_68 kp198_102 kp198_103 kp198_104 kp199_6 kp199_7 kp199_8 kp200_24 kp200_25 kp200_26 kp201_6 kp201_7 kp201_8 kp213_3 kp213_4 kp213_5 kp220_9 kp220_10 kp220_11 kp220_33 kp220_34 kp220_35 eqo80 fd114_2 lv7 lv8 lv9 lv14 lv18 lv22 lv23 lv25 lv28 lv29 lv30 lv32 lv34 lv37 lv40 lv41 lv42 lv43 lv44 lv45 lv46 lv47 lv52 lv62 lv64 lv65 lv66 lv70 lv72 lv73 lv74 lv78 lv79 lv80 lv81 lv82 lv83 lv84 lv85 lv86 lv87 lv88 lv89 lv90 lv91 lv92 lv93 lv94 lv95 lv96 lv97 lv98 lv99 lv100 lv101 lv102 lv103 lv104 lv105 lv106 lv107 lv122 lv123 lv124 lv125 lv126 lv131 lv132 lv133 lv134 lv135 lv136 lv137 lv141 lv142 lv143 lv144 lv145 lv146 lv147 lv148 lv149 lv150 lv151 lv152 lv153 lv154 lv155 lv156 lv157 lv158 lv159 lv160 lv161 lv162 lv163 lv164 lv165 lv166 lv167 lv168 lv169 lv170 lv173 lv174 lv175 lv176 lv178 lv179 lv180 lv181 lv197 lv198 lv199 lv200 lv201 lv202 lv203 lv204 lv205 lv206 lv207 lv208 lv209 lv210 lv212 lv213 lv219 lv220 lv223 lv224
end Go.Proofs.YtfpioigggjnffaaGreatDoor.E
