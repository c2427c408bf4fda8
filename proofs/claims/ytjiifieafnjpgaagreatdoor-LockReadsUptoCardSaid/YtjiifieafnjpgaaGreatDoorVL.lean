/- What versions answer. -/
import Derived.Test.YtjiifieafnjpgaaGreatDoorVL3
